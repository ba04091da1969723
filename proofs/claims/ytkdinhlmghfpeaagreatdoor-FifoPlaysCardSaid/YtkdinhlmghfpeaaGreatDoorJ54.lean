/- Joined texts: The document's rising rows, and for whom somebody waits (ratlineref10.Put, Queue.Blockers). For whom somebody waits, of the document's queue (ratlineref10.Queue.Blockers). -/
import Derived.Test.YtkdinhlmghfpeaaGreatDoorJ45
import Derived.Test.YtkdinhlmghfpeaaGreatDoorJ24
import Derived.Test.YtkdinhlmghfpeaaGreatDoorJ41
/- The document's rising rows, and for whom somebody waits (ratlineref10.Put, Queue.Blockers). -/
namespace Go.Proofs.YtkdinhlmghfpeaaGreatDoor
open Go.ChangeShapes Go.WideShapes Go.ChangeAt Go.RowKit
set_option maxRecDepth 100000
set_option linter.unusedSimpArgs false

abbrev IntsD (D : PH) (v : Value) (l : List Int) : Prop := RdP D 1 v l.length (l.map (Value.int .i64))
theorem intAtE {w : World} {v : Value} {ds : List Int} {k : Nat} {d : Int} (h : IntsRd w v ds) (hd : ds[k]? = some d) : ∃ g o c, v = .slice (some ⟨g, o, none⟩) ds.length c ∧ w.cell? ⟨g, o + k, none⟩ = some (.int .i64 d) := by
  obtain ⟨_, _, a, c, rfl, _, _, _, hc⟩ := h
  have hlt := (List.getElem?_eq_some_iff.1 hd).1
  rcases hc with h0 | ⟨g, o, rfl, hc⟩
  · omega
  · exact ⟨g, o, c, rfl, hc k _ (by rw [List.getElem?_map, hd]; rfl)⟩
theorem put_at {L : List Int} {n : Int} {k : Nat} (hR : Rise L) (h1 : ∀ x ∈ L.take k, x < n) (h2 : ∀ d, L[k]? = some d → n < d) : putI L n = L.take k ++ [n] ++ L.drop k := by
  have hd : ∀ x ∈ L.drop k, n < x := by
    intro x hx
    obtain ⟨i, hi, rfl⟩ := List.mem_iff_getElem.1 hx
    rw [List.length_drop] at hi
    have hk : k < L.length := by omega
    have h3 := h2 _ (List.getElem?_eq_getElem hk)
    rw [List.getElem_drop]
    by_cases h0 : i = 0
    · subst h0; exact h3
    · have := List.pairwise_iff_getElem.1 hR k (k + i) hk (by omega) (by omega)
      omega
  have hn : ¬ n ∈ L := by
    intro h
    rw [← List.take_append_drop k L] at h
    rcases List.mem_append.1 h with h | h
    · have := h1 n h; omega
    · have := hd n h; omega
  unfold putI
  rw [if_neg hn]
  have e1 : L.takeWhile (fun x => decide (x < n)) = L.take k := by
    conv => lhs; rw [← List.take_append_drop k L]
    rw [List.takeWhile_append_of_pos (fun x hx => by simpa using h1 x hx)]
    cases hdk : L.drop k with
    | nil => simp
    | cons y ys =>
      have : ¬ y < n := by have := hd y (by rw [hdk]; simp); omega
      rw [List.takeWhile_cons_of_neg (by simpa using this), List.append_nil]
  have e2 : L.dropWhile (fun x => decide (x < n)) = L.drop k := by
    have h3 := List.takeWhile_append_dropWhile (p := fun x => decide (x < n)) (l := L)
    rw [e1] at h3
    have h4 := List.take_append_drop k L
    exact List.append_cancel_left (h3.trans h4.symm)
  rw [e1, e2, List.append_assoc]
  rfl
theorem putI_len (L : List Int) (n : Int) : (putI L n).length ≤ L.length + 1 := by
  unfold putI
  split
  · omega
  · have h := congrArg List.length (List.takeWhile_append_dropWhile (p := fun x => decide (x < n)) (l := L))
    rw [List.length_append] at h
    rw [List.length_append, List.length_cons]
    omega
theorem putAll_len (l : List Int) : (putAll l).length ≤ l.length := by
  have key : ∀ (l m : List Int), (l.foldl putI m).length ≤ m.length + l.length := by
    intro l
    induction l with
    | nil => intro m; simp
    | cons x l ih =>
      intro m
      have h1 := ih (putI m x)
      have h2 := putI_len m x
      rw [List.foldl_cons, List.length_cons]
      omega
  have := key l []
  unfold putAll
  simpa using this
theorem putAll_snoc (l : List Int) (n : Int) : putAll (l ++ [n]) = putI (putAll l) n := by unfold putAll; rw [List.foldl_append]; rfl
theorem run_cut_hI (w : World) (ao : Option Addr) (N cap m : Nat) (hm : m ≤ cap) : (Instr.sliceAt 22 (.slice ao N cap) none (some (.int .i64 m)) none).run Tryz.prog w = .ok (sliced ao 0 m cap 1) w := by
  have ht : Tryz.prog.underlying 22 = some (.slice (Tryz.prog.elem 22)) := by kernel_rfl
  have hz : (Go.sizeOf (Tryz.prog.elem 22)).run Tryz.prog w = .ok 1 w := by kernel_rfl
  rw [run_sliceAt_slice w 22 _ _ _ _ ht, run_slice_h w 22 ao N cap ht .i64 m (by omega) (by omega), hz]
  rfl
theorem run_cut_lI (w : World) (ao : Option Addr) (N cap m : Nat) (hm : m ≤ N) : (Instr.sliceAt 22 (.slice ao N cap) (some (.int .i64 m)) none none).run Tryz.prog w = .ok (sliced ao m N cap 1) w := by
  have ht : Tryz.prog.underlying 22 = some (.slice (Tryz.prog.elem 22)) := by kernel_rfl
  have hz : (Go.sizeOf (Tryz.prog.elem 22)).run Tryz.prog w = .ok 1 w := by kernel_rfl
  rw [run_sliceAt_slice w 22 _ _ _ _ ht, run_slice_l w 22 ao N cap ht .i64 m (by omega) (by omega), hz]
  rfl
section
variable {ops : Array Oper} {rest : List Oper} {o : Oper} {a : Act} {w : World} {Q : Exit → Act → World → Prop} {D : PH} {ao : Option Addr} {N cap : Nat} {L : List Int}
theorem wpList_cut_hI (hgd : o.guard = none) (x y : Operand) (ho : o.op = .slice 22 x none (some y) none) (m : Nat) (hx : a.eval x = .slice ao N cap) (hy : a.eval y = .int .i64 m) (h : IntsD D (.slice ao N cap) L) (hl : L.length = N) (hm : m ≤ N)
    (k : ∀ v, IntsD D v (L.take m) → wpList Tryz.prog ops Q rest (a.put o.dst v) w) : wpList Tryz.prog ops Q (o :: rest) a w :=
  wpList_plain hgd fun _ hK => by
    have hc : m ≤ cap := by
      obtain ⟨_, _, _, _, h3, h4, _⟩ := h
      cases h3
      omega
    have hrun := run_cut_hI w ao N cap m hc
    unfold Oper.wp execOp
    simp only [ho, Option.map_none, Option.map_some, hx, hy, Sem.run_bind, Sem.run_pure, Result.andThen_ok, hrun]
    refine hK _ _ (k _ ?_)
    have h1 : RdP D 1 (.slice ao N cap) L.length (L.map (Value.int .i64)) := h
    rw [hl] at h1
    have h2 := h1.cut (Nat.zero_le m) hm
    show RdP D 1 _ (L.take m).length ((L.take m).map (Value.int .i64))
    rw [List.length_take, hl, Nat.min_eq_left hm, List.map_take]
    simpa using h2
theorem wpList_cut_lI (hgd : o.guard = none) (x y : Operand) (ho : o.op = .slice 22 x (some y) none none) (m : Nat) (hx : a.eval x = .slice ao N cap) (hy : a.eval y = .int .i64 m) (h : IntsD D (.slice ao N cap) L) (hl : L.length = N) (hm : m ≤ N)
    (k : ∀ v, IntsD D v (L.drop m) → wpList Tryz.prog ops Q rest (a.put o.dst v) w) : wpList Tryz.prog ops Q (o :: rest) a w :=
  wpList_plain hgd fun _ hK => by
    have hrun := run_cut_lI w ao N cap m hm
    unfold Oper.wp execOp
    simp only [ho, Option.map_none, Option.map_some, hx, hy, Sem.run_bind, Sem.run_pure, Result.andThen_ok, hrun]
    refine hK _ _ (k _ ?_)
    have h1 : RdP D 1 (.slice ao N cap) L.length (L.map (Value.int .i64)) := h
    rw [hl] at h1
    have h2 := h1.cut hm (Nat.le_refl N)
    show RdP D 1 _ (L.drop m).length ((L.drop m).map (Value.int .i64))
    rw [List.length_drop, hl, List.map_drop]
    rw [List.take_of_length_le (by rw [List.length_map]; omega), Nat.mul_one] at h2
    exact h2
end
def IntsGot (B : World) (D : PH) (l : List HP) (L : List Int) (r : Ending) (w' : World) : Prop := ∃ (v : Value) (D' : PH), r = .returned v ∧ PH.le D D' ∧ IntsD D' v L ∧ Sat B D' w' l
theorem ints_oneE (l : List Int) : ∀ u ∈ l.map (Value.int .i64), u.oneCell' = true := fun u hu => by
  obtain ⟨n, _, rfl⟩ := List.mem_map.1 hu
  rfl
set_option maxHeartbeats 8000000 in
theorem rqPut_ok {B w : World} {D : PH} {l : List HP} {v : Value} {L : List Int} (n : Int) (hR : Rise L) (h : IntsD D v L) (hM : L.length ≤ 1000) (s : Sat B D w l) :
    Calls Tryz.prog 70 #[v, .int .i64 n] w (IntsGot B D l (putI L n)) := by
  obtain ⟨i0, hi, hz0, hz1, hz2⟩ := info_parts infoInt
  have HI := Lib.hid (And.intro hi (And.intro hz0 (And.intro hz1 hz2)))
  obtain ⟨va, vc, rfl⟩ := h.shape
  have HH := Lib.hid h
  have HS := Lib.hid s
  have HR := Lib.hid hR
  clear h s hR hi hz0 hz1 hz2
  go_enter Tryz.func70, Tryz.ntmps70
  go_wp2_with fail
  go_loopw [5] (fun ii wr => ∃ k : Nat, ii = .int .i64 k ∧ k ≤ L.length ∧ (∀ x ∈ L.take k, x < n) ∧ wr = w) (fun ii _ => L.length - (intOf ii).toNat)
  case atStart => exact ⟨0, rfl, by omega, fun x hx => by simp at hx, rfl⟩
  case round =>
    obtain ⟨k, rfl, hk, hlt, rfl⟩ := hrel
    have HLT := Lib.hid hlt
    clear hlt
    by_cases hkl : k < L.length
    · have hki : (k : Int) < (L.length : Int) := by omega
      obtain ⟨d, hd⟩ : ∃ d, L[k]? = some d := ⟨L[k]'hkl, List.getElem?_eq_getElem _⟩
      obtain ⟨g, og, cc, hva, hcell⟩ := intAtE (HH.out.rd HS.out) hd
      have hva1 := (Value.slice.inj hva).1
      subst hva1
      have HDD := Lib.hid hd
      clear hd hva
      by_cases hdn : d < n
      · go_wp2_with fail
        go_roundw
        case rel => exact ⟨k + 1, by go_num, by omega, fun y hy => by
          rw [List.take_add_one, HDD.out] at hy
          rcases List.mem_append.1 hy with hy | hy
          · exact HLT.out y hy
          · simp at hy; rw [hy]; exact hdn, by first | rfl | trivial⟩
        case measure => simp [intOf]; omega
      · by_cases hde : d = n
        · subst hde
          have HP := Lib.hid (show putI L d = L by unfold putI; rw [if_pos (List.mem_of_getElem? HDD.out)])
          go_wp2_with fail
          go_ret
          exact ⟨_, D, rfl, PH.le.refl _, by rw [HP.out]; exact HH.out, HS.out⟩
        · have hde2 : (d == n) = false := by simpa using hde
          have HP := Lib.hid (put_at HR.out HLT.out (fun y hy => by rw [HDD.out] at hy; cases hy; omega))
          clear hde
          focus
            go_upto_region 6 with fail
            clear hde2 hcell hdn hki
          all_goals skip
          have HSN := Lib.hid (HS.out.own_nil 3 1)
          go_upto_region 8 with (first | (refine wpList_cut_hI rfl _ _ rfl k rfl rfl HH.out rfl hk ?_; intro v5 hv5; have HV5 := Lib.hid (hv5.rd HSN.out); clear hv5) | (at_builtin; refine wpList_append_Sat _ rfl _ _ 22 rfl 3 i0 _ 1 8 Tryz.underlying22 HI.out.1 HI.out.2.1 HI.out.2.2.1 HI.out.2.2.2 rfl _ 0 _ rfl HSN.out _ (L.take k).length _ rfl HV5.out (ints_oneE _) (by unfold maxLen; (try simp only [List.length_take, List.length_drop]); omega) (by (try simp only [List.length_take, List.length_drop]); omega) ?_; intro v6 w6 hs6 h6; have HS6 := Lib.hid hs6; clear hs6 h6 HSN HV5))
          have HS7 := Lib.hid ((HS6.out.alloc #[.int .i64 n] 3).front 1 rfl)
          have HRD := Lib.hid (rd_block (size := 1) (n := 1) (HS7.out.blk 1 rfl) rfl (by unfold maxLen; omega))
          clear HS6
          go_upto_region 9 with (at_builtin; refine wpList_append_Sat _ rfl _ _ 22 rfl 3 i0 _ 1 8 Tryz.underlying22 HI.out.1 HI.out.2.1 HI.out.2.2.1 HI.out.2.2.2 rfl _ (0 + (L.take k).length) _ rfl HS7.out _ 1 _ rfl HRD.out (by intro u hu; simp at hu; subst hu; rfl) (by unfold maxLen; (try simp only [List.length_take, List.length_drop]); omega) (by (try simp only [List.length_take, List.length_drop]); omega) ?_; intro v8 w8 hs8 h8; have HS8 := Lib.hid hs8; clear hs8 h8 HS7 HRD)
          go_wp2_with (first | (refine wpList_cut_lI rfl _ _ rfl k rfl rfl HH.out rfl hk ?_; intro v9 hv9; have HV9 := Lib.hid (hv9.rd HS8.out); clear hv9) | (at_builtin; refine wpList_append_Sat _ rfl _ _ 22 rfl 3 i0 _ 1 8 Tryz.underlying22 HI.out.1 HI.out.2.1 HI.out.2.2.1 HI.out.2.2.2 rfl _ (0 + (L.take k).length + 1) _ rfl HS8.out _ (L.drop k).length _ rfl HV9.out (ints_oneE _) (by unfold maxLen; (try simp only [List.length_take, List.length_drop]); omega) (by (try simp only [List.length_take, List.length_drop]); omega) ?_; intro v10 w10 hs10 h10; have HS10 := Lib.hid hs10; clear hs10 h10 HS8 HV9))
          go_ret
          have e1 : (putI L n).length = 0 + (L.take k).length + 1 + (L.drop k).length := by rw [HP.out]; simp only [List.length_append, List.length_singleton]; omega
          obtain ⟨D', hle, hrd, hs11⟩ := (show Sat B D w10 (ownS 3 1 v10 (putI L n).length ((putI L n).map (Value.int .i64)) :: _) by rw [e1, HP.out, List.map_append, List.map_append]; have h9 := HS10.out; simpa using h9).own_give
          exact ⟨_, D', rfl, hle, hrd, hs11.drop⟩
    · have hki : ¬ ((k : Int) < (L.length : Int)) := by omega
      obtain rfl : k = L.length := by omega
      have HP := Lib.hid (put_at HR.out HLT.out (fun y hy => by rw [List.getElem?_eq_none (Nat.le_refl _)] at hy; cases hy))
      go_upto_region 6 with fail
      clear hki
      have hk' : L.length ≤ L.length := Nat.le_refl _
      have HSN := Lib.hid (HS.out.own_nil 3 1)
      go_upto_region 8 with (first | (refine wpList_cut_hI rfl _ _ rfl L.length rfl rfl HH.out rfl hk' ?_; intro v5 hv5; have HV5 := Lib.hid (hv5.rd HSN.out); clear hv5) | (at_builtin; refine wpList_append_Sat _ rfl _ _ 22 rfl 3 i0 _ 1 8 Tryz.underlying22 HI.out.1 HI.out.2.1 HI.out.2.2.1 HI.out.2.2.2 rfl _ 0 _ rfl HSN.out _ (L.take L.length).length _ rfl HV5.out (ints_oneE _) (by unfold maxLen; (try simp only [List.length_take, List.length_drop]); omega) (by (try simp only [List.length_take, List.length_drop]); omega) ?_; intro v6 w6 hs6 h6; have HS6 := Lib.hid hs6; clear hs6 h6 HSN HV5))
      have HS7 := Lib.hid ((HS6.out.alloc #[.int .i64 n] 3).front 1 rfl)
      have HRD := Lib.hid (rd_block (size := 1) (n := 1) (HS7.out.blk 1 rfl) rfl (by unfold maxLen; omega))
      clear HS6
      go_upto_region 9 with (at_builtin; refine wpList_append_Sat _ rfl _ _ 22 rfl 3 i0 _ 1 8 Tryz.underlying22 HI.out.1 HI.out.2.1 HI.out.2.2.1 HI.out.2.2.2 rfl _ (0 + (L.take L.length).length) _ rfl HS7.out _ 1 _ rfl HRD.out (by intro u hu; simp at hu; subst hu; rfl) (by unfold maxLen; (try simp only [List.length_take, List.length_drop]); omega) (by (try simp only [List.length_take, List.length_drop]); omega) ?_; intro v8 w8 hs8 h8; have HS8 := Lib.hid hs8; clear hs8 h8 HS7 HRD)
      go_wp2_with (first | (refine wpList_cut_lI rfl _ _ rfl L.length rfl rfl HH.out rfl hk' ?_; intro v9 hv9; have HV9 := Lib.hid (hv9.rd HS8.out); clear hv9) | (at_builtin; refine wpList_append_Sat _ rfl _ _ 22 rfl 3 i0 _ 1 8 Tryz.underlying22 HI.out.1 HI.out.2.1 HI.out.2.2.1 HI.out.2.2.2 rfl _ (0 + (L.take L.length).length + 1) _ rfl HS8.out _ (L.drop L.length).length _ rfl HV9.out (ints_oneE _) (by unfold maxLen; (try simp only [List.length_take, List.length_drop]); omega) (by (try simp only [List.length_take, List.length_drop]); omega) ?_; intro v10 w10 hs10 h10; have HS10 := Lib.hid hs10; clear hs10 h10 HS8 HV9))
      go_ret
      have e1 : (putI L n).length = 0 + (L.take L.length).length + 1 + (L.drop L.length).length := by rw [HP.out]; simp only [List.length_append, List.length_singleton]; omega
      obtain ⟨D', hle, hrd, hs11⟩ := (show Sat B D w10 (ownS 3 1 v10 (putI L n).length ((putI L n).map (Value.int .i64)) :: _) by rw [e1, HP.out, List.map_append, List.map_append]; have h9 := HS10.out; simpa using h9).own_give
      exact ⟨_, D', rfl, hle, hrd, hs11.drop⟩
end Go.Proofs.YtkdinhlmghfpeaaGreatDoor

/- For whom somebody waits, of the document's queue (ratlineref10.Queue.Blockers). -/
namespace Go.Proofs.YtkdinhlmghfpeaaGreatDoor
open Go.ChangeShapes Go.WideShapes Go.ChangeAt Go.RowKit
set_option maxRecDepth 100000
set_option linter.unusedSimpArgs false

noncomputable def blkTo (Q : Qm Clm) (o : Int) (i : Nat) : List Int := match waitAt Q.waits o with
  | some k => if k < i then putAll (blockL RC Q o) else []
  | none => []
theorem blkTo_zero (Q : Qm Clm) (o : Int) : blkTo Q o 0 = [] := by
  unfold blkTo
  split
  · rw [if_neg (by omega)]
  · rfl
theorem blkTo_all (Q : Qm Clm) (o : Int) : blkTo Q o Q.waits.length = putAll (blockL RC Q o) := by
  unfold blkTo
  split
  · rename_i k h
    obtain ⟨e, he, _⟩ := waitAt_get h
    rw [if_pos (List.getElem?_eq_some_iff.1 he).1]
  · rename_i h
    rw [blockL_noneC h]; rfl
theorem blkTo_no {Q : Qm Clm} {o : Int} {i : Nat} {e : Ent Clm} (he : Q.waits[i]? = some e) (ho : e.o ≠ o) : blkTo Q o (i + 1) = blkTo Q o i := by
  unfold blkTo
  split
  · rename_i k h
    obtain ⟨f, hf, hfo⟩ := waitAt_get h
    have : k ≠ i := fun h => by subst h; rw [he] at hf; cases hf; exact ho hfo
    by_cases hk : k < i
    · rw [if_pos (by omega), if_pos hk]
    · rw [if_neg (by omega), if_neg hk]
  · rfl
theorem waitAt_is {Q : Qm Clm} (hok : QOk Q) {o : Int} {i : Nat} {e : Ent Clm} (he : Q.waits[i]? = some e) (ho : e.o = o) : waitAt Q.waits o = some i := by
  cases h : waitAt Q.waits o with
  | none =>
    exfalso
    exact waitAt_none (by rw [h]; rfl) e (List.mem_of_getElem? he) ho
  | some k =>
    obtain ⟨f, hf, hfo⟩ := waitAt_get h
    obtain ⟨hk, rfl⟩ := List.getElem?_eq_some_iff.1 hf
    obtain ⟨hi, rfl⟩ := List.getElem?_eq_some_iff.1 he
    rcases Nat.lt_trichotomy k i with h1 | h1 | h1
    · exact absurd (hfo.trans ho.symm) (List.pairwise_iff_getElem.1 hok.once k i hk hi h1)
    · rw [h1]
    · exact absurd (ho.trans hfo.symm) (List.pairwise_iff_getElem.1 hok.once i k hi hk h1)
theorem blkTo_yes {Q : Qm Clm} (hok : QOk Q) {o : Int} {i : Nat} {e : Ent Clm} (he : Q.waits[i]? = some e) (ho : e.o = o) : blkTo Q o i = [] ∧ blkTo Q o (i + 1) = putAll (((Q.held ++ Q.waits.take i).filter (meetsE RC o e.c)).map (fun e => e.o)) := by
  have h := waitAt_is hok he ho
  unfold blkTo
  rw [h]
  dsimp only
  rw [if_neg (by omega), if_pos (by omega), blockL_someC h he]
  exact ⟨rfl, rfl⟩
set_option maxHeartbeats 16000000 in
theorem rqBlock_ok {B w : World} {D : PH} {l : List HP} {v : Value} {Q : Qm Clm} (o : Int) (hok : QOk Q) (hq : QueD D v Q) (hM : Q.held.length + Q.waits.length ≤ 900) (s : Sat B D w l) :
    Calls Tryz.prog 35 #[v, .int .i64 o] w (IntsGot B D l (putAll (blockL RC Q o))) := by
  obtain ⟨i0, hi, hz0, hz1, hz2⟩ := info_parts infoRe
  have HI := Lib.hid (And.intro hi (And.intro hz0 (And.intro hz1 hz2)))
  obtain ⟨hv, wv, hs, ws, rfl, hH, hW, hhq, hwq⟩ := hq
  obtain ⟨ha, hcp, rfl⟩ := hH.1.shape
  obtain ⟨wa, wc, rfl⟩ := hW.1.shape
  obtain ⟨W1, hW1, hs1⟩ := Sat.hide (s.alloc #[.slice ha hs.length hcp, .slice wa ws.length wc] tRq)
  have HW1 := Lib.hid hW1
  have HS1 := Lib.hid hs1
  have HH := Lib.hid hH
  have HWD := Lib.hid hW
  have HHQ := Lib.hid hhq
  have HWQ := Lib.hid hwq
  have HOK := Lib.hid hok
  have HWL := Lib.hid (show ws.length = Q.waits.length by rw [← hwq, List.length_map])
  have hhl : hs.length ≤ Q.held.length ∧ Q.held.length ≤ hs.length := by have := congrArg List.length hhq; rw [List.length_map] at this; omega
  have hwl : ws.length ≤ Q.waits.length ∧ Q.waits.length ≤ ws.length := by have := HWL.out; omega
  have hsum : hs.length + ws.length ≤ 900 := by omega
  have hhs : hs.length ≤ 100000 := by omega
  clear hs1 hW1 s hi hz0 hz1 hz2 hH hW hhq hwq hok hhl hwl hM
  go_enter Tryz.func35, Tryz.ntmps35
  go_upto_region 1 with fail
  rw [← HW1.out]
  clear HW1
  generalize w.heap.size = b1 at *
  go_wp2_with fail
  go_loopw [5, 6] (fun ot ii wr => ∃ (i : Nat) (D1 : PH) (ov : Value), ii = .int .i64 i ∧ ot = ov ∧ i ≤ ws.length ∧ PH.le D D1 ∧ IntsD D1 ov (blkTo Q o i) ∧ Sat B D1 wr (blk b1 #[.slice ha hs.length hcp, .slice wa ws.length wc] tRq :: l)) (fun _ ii _ => ws.length - (intOf ii).toNat)
  case atStart => exact ⟨0, D, _, rfl, rfl, by omega, PH.le.refl _, by rw [blkTo_zero]; exact RdP.nil D 1, HS1.out⟩
  case round =>
    obtain ⟨i, D1, ov, rfl, rfl, hi, hle, hou, hs2⟩ := hrel
    have HLE := Lib.hid hle
    have HOU := Lib.hid hou
    have HS2 := Lib.hid hs2
    obtain ⟨q0, q1, qf⟩ := cells2 (hs2.blk 0 rfl)
    clear hs2 hle hou HS1
    by_cases hlt : i < ws.length
    · have hii : (i : Int) < (ws.length : Int) := by omega
      obtain ⟨x, hx⟩ : ∃ x, ws[i]? = some x := ⟨ws[i]'hlt, List.getElem?_eq_getElem _⟩
      have HQX := Lib.hid (show Q.waits[i]? = some (entC x) by rw [← HWQ.out, List.getElem?_map, hx]; rfl)
      have HX := Lib.hid hx
      obtain ⟨g, og, hg, _, _, y0, _, _⟩ := entAt ((HWD.out.mono HLE.out).rd HS2.out) rfl hx
      subst hg
      clear hx
      by_cases ho : x.o = o
      · have hne : (x.o != o) = false := by simpa using ho
        have HBY := Lib.hid (blkTo_yes HOK.out HQX.out ho)
        rw [HBY.out.1] at HOU
        clear ho
        have HCP := Lib.hid (rqCopied_ok (HH.out.mono HLE.out) hhs HS2.out)
        go_upto_region 7 with (go_at_call 69; refine HCP.out.mono ?_; rintro e5 w5 ⟨va, vc, rfl, hs5⟩; have HS5 := Lib.hid hs5; clear hs5 HCP HS2 q0 q1 qf y0)
        obtain ⟨q0, q1, qf⟩ := cells2 (HS5.out.blk 1 rfl)
        have hil : i ≤ ws.length := by omega
        have HWD1 := Lib.hid (HWD.out.mono HLE.out)
        go_upto_region 8 with (first | (refine wpList_cut_h rfl _ _ rfl i rfl rfl HWD1.out rfl hil ?_; intro v6 hv6; have HV6 := Lib.hid (hv6.rd HS5.out).1; clear hv6) | (at_builtin; refine wpList_append_Sat _ rfl _ _ tRs rfl tRe i0 _ 18 200 Tryz.underlying54 HI.out.1 HI.out.2.1 HI.out.2.2.1 HI.out.2.2.2 rfl _ hs.length _ rfl HS5.out _ (ws.take i).length _ rfl HV6.out (flat_one18 _) (by unfold maxLen; (try simp only [List.length_take]); omega) (by (try simp only [List.length_take]); omega) ?_; intro v7 w7 hs7 h7; have HS7 := Lib.hid hs7; clear hs7 h7 HS5 HV6 q0 q1 qf))
        obtain ⟨zs, hzs⟩ : ∃ zs, zs = hs ++ ws.take i := ⟨_, rfl⟩
        have hs8 : Sat B D1 w7 (entsR v7 zs :: blk b1 #[.slice ha hs.length hcp, .slice (some ⟨g, og, none⟩) ws.length wc] tRq :: l) := by
          rw [hzs]
          show Sat B D1 w7 (ownS tRe 18 v7 (hs ++ ws.take i).length ((hs ++ ws.take i).flatMap cellsC) :: _)
          rw [List.length_append, List.flatMap_append]
          exact HS7.out
        have HZM := Lib.hid (show zs.map entC = Q.held ++ Q.waits.take i by rw [hzs, List.map_append, HHQ.out, List.map_take, HWQ.out])
        have HZO := Lib.hid (show ∀ e ∈ zs, ClOk D e.x ∧ ClmFit e.x.c from fun e he => by
          rw [hzs] at he
          rcases List.mem_append.1 he with he | he
          · exact HH.out.2 e he
          · exact HWD.out.2 e (List.mem_of_mem_take he))
        have hzl : zs.length ≤ 900 := by rw [hzs, List.length_append, List.length_take]; omega
        obtain ⟨za, zc, rfl⟩ := hs8.own_shape
        have HS8 := Lib.hid hs8
        clear hs8 HS7 hzs
        go_wp2_with fail
        go_loopw [5, 8] (fun ot ii wr => ∃ (j : Nat) (D2 : PH) (ov2 : Value), ii = .int .i64 j ∧ ot = ov2 ∧ j ≤ zs.length ∧ PH.le D1 D2 ∧ IntsD D2 ov2 (putAll (blockToC zs o x.x.c j)) ∧ Sat B D2 wr (entsR (.slice za zs.length zc) zs :: blk b1 #[.slice ha hs.length hcp, .slice (some ⟨g, og, none⟩) ws.length wc] tRq :: l)) (fun _ ii _ => zs.length - (intOf ii).toNat)
        case atStart => exact ⟨0, D1, _, rfl, rfl, by omega, PH.le.refl _, HOU.out, HS8.out⟩
        case round =>
          obtain ⟨j, D2, ov2, rfl, rfl, hj, hle2, hou2, hs9⟩ := hrel
          have HLE2 := Lib.hid hle2
          have HOU2 := Lib.hid hou2
          have HS9 := Lib.hid hs9
          obtain ⟨q0, q1, qf⟩ := cells2 (hs9.blk 1 rfl)
          clear hle2 hou2 hs9 HS8
          by_cases hjl : j < zs.length
          · have hji : (j : Int) < (zs.length : Int) := by omega
            obtain ⟨y, hy⟩ : ∃ y, zs[j]? = some y := ⟨zs[j]'hjl, List.getElem?_eq_getElem _⟩
            have HY := Lib.hid hy
            have HYO := Lib.hid (HZO.out y (List.mem_of_getElem? hy))
            have HEZ := Lib.hid (fun (W : World) (hW : Sat B D2 W (entsR (.slice za zs.length zc) zs :: blk b1 #[.slice ha hs.length hcp, .slice (some ⟨g, og, none⟩) ws.length wc] tRq :: l)) => (show EntsRd W (.slice za zs.length zc) zs from ⟨(hW.own 0 rfl).rd, fun e he => (((HZO.out e he).1.mono HLE.out).mono HLE2.out).rd hW, fun e he => (HZO.out e he).2⟩))
            obtain ⟨g3, og3, hg3, _, hr3, _, hre3, hfe3⟩ := entAt (HEZ.out _ HS9.out) rfl hy
            obtain ⟨g4, og4, hg4, _, hr4, _, hre4, hfe4⟩ := entAt (((HWD.out.mono HLE.out).mono HLE2.out).rd HS9.out) rfl HX.out
            cases hg4
            subst hg3
            have HLY := Lib.hid (loadCl (w := wr.drew) hr3)
            have HLX := Lib.hid (loadCl (w := wr.drew) hr4)
            have HCF := Lib.hid (rConf_ok (w := wr.drew) hre3.drew hre4.drew hfe3 hfe4)
            clear hy hr3 hr4 hre3 hre4 hfe3 hfe4
            obtain ⟨cf, hcf⟩ : ∃ cf, RC.conf y.x.c x.x.c = cf := ⟨_, rfl⟩
            rw [hcf] at HCF
            have HME := Lib.hid (show meetsE RC o x.x.c (entC y) = (decide (y.o ≠ o) && cf) by unfold meetsE; rw [← hcf])
            clear hcf
            go_upto_region 11 with fail
            refine wp_region_canon [(0, false, 11), (1, false, 11), (2, false, 11), (3, false, 11), (4, false, 11), (5, false, 11), (6, false, 11), (7, false, 11), (8, false, 11), (9, false, 11), (10, false, 11), (11, true, 0), (12, false, 999)] (by kernel_rfl) (by kernel_rfl) ?_
            iterate 11 (refine wpCan_read rfl rfl (fun K hK => ?_); (first | ((refine still_ld _ _ rfl _ _ rfl _ HLY.out ?_); go_simp) | ((refine still_ld _ _ rfl _ _ rfl _ HLX.out ?_); go_simp) | go_simp); refine hK _ ?_; clear hK K)
            refine wpCan_eff rfl ?_
            refine wpList_do rfl (fun K hK => ?_)
            go_simp
            refine HCF.out.mono ?_
            rintro ea wa2 ⟨rfl, hka⟩
            have HSA := Lib.hid (HS9.out.drew.kept hka)
            clear hka HCF HLY HLX HS9 q0 q1 qf
            refine hK _ _ ?_
            clear hK K
            refine wpList_nil ?_
            refine And.intro ?_ ?_
            · go_simp
            iterate 1 (refine wpCan_read rfl rfl (fun K hK => ?_); (first | ((refine still_ld _ _ rfl _ _ rfl _ HLY.out ?_); go_simp) | ((refine still_ld _ _ rfl _ _ rfl _ HLX.out ?_); go_simp) | go_simp); refine hK _ ?_; clear hK K)
            refine wpCan_nil ?_
            obtain ⟨g5, og5, hg5, _, _, y5, _, _⟩ := entAt (HEZ.out _ HSA.out) rfl HY.out
            cases hg5
            by_cases hyo : y.o = o
            · have hne2 : (y.o != o) = false := by simpa using hyo
              have HT := Lib.hid (blockToC_no (o := o) (c := x.x.c) HY.out (by rw [HME.out]; simp [hyo]))
              clear hyo
              go_wp2_with fail
              go_roundw
              case rel => exact ⟨j + 1, D2, _, by go_num, rfl, by omega, HLE2.out, by rw [HT.out]; exact HOU2.out, HSA.out⟩
              case measure => simp [intOf]; omega
            · have hne2 : (y.o != o) = true := by simpa using hyo
              cases cf
              · have HT := Lib.hid (blockToC_no (o := o) (c := x.x.c) HY.out (by rw [HME.out]; simp))
                clear hyo
                go_wp2_with fail
                go_roundw
                case rel => exact ⟨j + 1, D2, _, by go_num, rfl, by omega, HLE2.out, by rw [HT.out]; exact HOU2.out, HSA.out⟩
                case measure => simp [intOf]; omega
              · have HT := Lib.hid (blockToC_yes (o := o) (c := x.x.c) HY.out (by rw [HME.out]; simp [hyo]))
                have hpl : (putAll (blockToC zs o x.x.c j)).length ≤ 1000 := by have := putAll_len (blockToC zs o x.x.c j); have := blockToC_le zs o x.x.c j; omega
                have HPT := Lib.hid (rqPut_ok y.o (putAll_rise (blockToC zs o x.x.c j)) HOU2.out hpl HSA.out)
                clear hyo
                go_wp2_with (go_at_call 70; refine HPT.out.mono ?_; rintro eb wb ⟨vb, D3, rfl, hle3, hou3, hsb⟩; have HLE3 := Lib.hid hle3; have HOU3 := Lib.hid hou3; have HSB := Lib.hid hsb; clear hle3 hou3 hsb HPT HSA y5)
                go_roundw
                case rel => exact ⟨j + 1, D3, _, by go_num, rfl, by omega, HLE2.out.trans HLE3.out, by rw [HT.out, putAll_snoc]; exact HOU3.out, HSB.out⟩
                case measure => simp [intOf]; omega
          · have hji : ¬ ((j : Int) < (zs.length : Int)) := by omega
            have HFI := Lib.hid (show blkTo Q o (i + 1) = putAll (blockToC zs o x.x.c j) by
              rw [HBY.out.2]
              unfold blockToC
              rw [show zs.take j = zs from List.take_of_length_le (by omega), HZM.out])
            go_wp2_with fail
            go_roundw
            case rel => exact ⟨i + 1, D2, _, by go_num, rfl, by omega, HLE.out.trans HLE2.out, by rw [HFI.out]; exact HOU2.out, HS9.out.drop⟩
            case measure => simp [intOf]; omega
      · have hne : (x.o != o) = true := by simpa using ho
        have HT := Lib.hid (blkTo_no HQX.out ho)
        clear ho
        go_wp2_with fail
        go_roundw
        case rel => exact ⟨i + 1, D1, _, by go_num, rfl, by omega, HLE.out, by rw [HT.out]; exact HOU.out, HS2.out⟩
        case measure => simp [intOf]; omega
    · have hii : ¬ ((i : Int) < (ws.length : Int)) := by omega
      obtain rfl : i = ws.length := by omega
      have HF := Lib.hid (show blkTo Q o ws.length = putAll (blockL RC Q o) by rw [HWL.out]; exact blkTo_all Q o)
      go_wp2_with fail
      go_ret
      exact ⟨_, D1, rfl, HLE.out, by rw [← HF.out]; exact HOU.out, HS2.out.drop⟩
end Go.Proofs.YtkdinhlmghfpeaaGreatDoor
