/- Joined texts: The place of a reason (at); noting one; forgetting. Forgetting reasons; whether somebody has a claim. Dropping what somebody holds, where it is told to; ending a reason. Ending a reason of all claims of an owner. The bit of a reason. -/
import Derived.Test.YtgljdkjepdknnaaGreatDoorMT22
import Derived.Test.YtgljdkjepdknnaaGreatDoorMT10
import Derived.Test.YtgljdkjepdknnaaGreatDoorMT6
import Derived.Test.YtgljdkjepdknnaaGreatDoorMT15
set_option maxHeartbeats 64000000
namespace Go.Proofs.YtgljdkjepdknnaaGreatDoor
open Go.ChangeShapes Go.WideShapes Go.ChangeAt Go.RowKit
set_option maxRecDepth 100000
set_option linter.unusedSimpArgs false
theorem Sat.setQ {B w : World} {D : PH} {l : List HP} {L q : Nat} {tv rv : Value} {room : Int} (hs : Sat B D w (lkb L q tv room rv :: l)) (u : Value) : Sat B D (w.setCell ⟨L, 3, none⟩ u) (lkb L q tv room u :: l) := hs.set 3 u
theorem kd {α : Type} {f : α → List Value} {z : Nat} (hf : ∀ a, (f a).length = z) {x y : α} {u : Value} {j : Nat} (hj : j < z) (hy : f y = (f x).set j u) : ∀ (xs : List α) (k : Nat), xs[k]? = some x → (xs.flatMap f).set (k * z + j) u = (xs.set k y).flatMap f
 | [], k, h => by simp at h
 | a :: xs, 0, h => by
  simp at h
  subst h
  simp only [List.flatMap_cons, Nat.zero_mul, Nat.zero_add, BR]
  rw [List.set_append_left _ _ (by rw [hf]; exact hj), hy]
 | a :: xs, k + 1, h => by
  simp only [List.getElem?_cons_succ] at h
  simp only [List.flatMap_cons, BQ]
  rw [show (k + 1) * z + j = (f a).length + (k * z + j) by rw [hf, Nat.succ_mul]; omega]
  rw [List.set_append_right _ _ (by omega), Nat.add_sub_cancel_left, kd hf hj hy xs k h]
theorem my (l : List Rsn) (o : Int) (c : Clm) : (∃ k, atR l o c = some k ∧ cl (ofR o c) l = (k : Int) ∧ k < l.length) ∨ (atR l o c = none ∧ cl (ofR o c) l = -1) := by
 unfold atR cl
 cases h : l.findIdx? (ofR o c) with
 | none => exact .inr ⟨rfl, rfl⟩
 | some k =>
  obtain ⟨hlt, _⟩ := List.findIdx?_eq_some_iff_getElem.1 h
  exact .inl ⟨k, rfl, rfl, hlt⟩
theorem atF_W {w : World} {b1 b2 : Nat} {o : Int} {c : ClmE} (h1 : w.heap[b1]? = some (.cells #[.int .i64 o] 3 (0, 0))) (h2 : w.heap[b2]? = some (.cells c.cells.toArray tCl (0, 0))) (x : RsnE)
  (hx : RdCl w x.x) (hc : RdCl w c)
  : PredF 139 #[.pointer (some ⟨b1, 0, none⟩), .pointer (some ⟨b2, 0, none⟩)] w (bv x) (ofR o c.c (it x)) := by
 refine ⟨enters_of Tryz.func139 (by kernel_rfl) rfl, fun W hW => ?_⟩
 obtain ⟨W1, hW1, hk1, hbx, hb1⟩ := bQ (aA hW h1) (bv x).toArray tRs
 have hk2 := hW.trans hk1 (fun _ h => h.elim)
 have sR := BO hW1
 have sW := BO hk1
 have tu := BO hbx
 obtain ⟨c0, _⟩ := aM hb1
 have wk := BO (ay (ai (ev hk2 h2)))
 have tD := BO (eR (hx.kept hk2) (hc.kept hk2))
 clear h1 h2 hW hW1 hk1 hk2 hbx hb1
 show Calls Tryz.prog 139 #[.agg (bv x).toArray, .pointer (some ⟨b1, 0, none⟩), .pointer (some ⟨b2, 0, none⟩)] W _
 by_cases ho : x.o = o
 ·have HO := BO (show ofR o c.c (it x) = RC.same x.x.c c.c by unfold ofR; simp [ho])
  rw [HO.out]
  generalize RC.same x.x.c c.c = rr at *
  go_enter Tryz.func139, Tryz.ntmps139
  go_upto_region 1 with fail
  rw [← sR.out]
  clear sR HO
  generalize W.heap.size = bx at tu ⊢
  have x0 := (sM tu.out).1
  have tA := BO (ay (sf tu.out))
  rw [ho] at x0
  clear ho
  go_wp2_with (first | (refine bG rfl _ _ rfl _ _ rfl _ tA.out ?_) | (refine bG rfl _ _ rfl _ _ rfl _ wk.out ?_) | (go_at_call 74; refine tD.out.mono ?_; rintro e1 w1 ⟨rfl, hk3⟩; have s8 := BO (sW.out.trans hk3 (fun _ h => h.elim)); clear hk3 tD x0 c0 tA wk))
  go_ret
  exact ⟨rfl, s8.out⟩
 ·have HO := BO (show ofR o c.c (it x) = false by unfold ofR; simp [ho])
  have hne : (x.o == o) = false := by simpa using ho
  rw [HO.out]
  go_enter Tryz.func139, Tryz.ntmps139
  go_upto_region 1 with fail
  rw [← sR.out]
  clear sR HO tD wk
  generalize W.heap.size = bx at tu ⊢
  have x0 := (sM tu.out).1
  clear ho
  go_wp2_with fail
  go_ret
  exact ⟨rfl, sW.out⟩
theorem at_W {B w : World} {D D' : PH} {l : List HP} {L : Nat} {ts : List (List Bool)} {room : Int} {m : LkM} (o : Int) (c : ClmE) (hD : PH.le D' D) (hc : ClOk D c) (h : Sat B D w (b7 D' L ts room m :: l)) :
  Calls Tryz.prog 88 #[.pointer (some ⟨L, 0, none⟩), .int .i64 o, .agg c.cells.toArray] w fun e w' => e = .returned (.int .i64 (cl (ofR o c.c) m.why)) ∧ Kept (fun _ => False) w w' := by
 obtain ⟨q, tv, rv, rs, ht, hr, h1⟩ := bW h
 obtain ⟨W1, hW1, hk1, hb1, hb2⟩ := gX w #[.int .i64 o] c.cells.toArray 3 tCl
 have hs1 := h1.kept hk1
 have HI := BO (jf (fun x => ofR o c.c (it x)) (hs1.own 2 rfl).rd (fun x hx => atF_W hb1 hb2 x (((hr.2 x hx).mono hD).rd hs1) (hc.rd hs1)))
 rw [pY (ofR o c.c), hr.1] at HI
 have sR := BO hW1
 have sW := BO hk1
 obtain ⟨c0, c1, c2, c3, _⟩ := bA (hs1.blk 0 rfl)
 clear h h1 hs1 ht hr hW1 hk1 hb1 hb2
 generalize cl (ofR o c.c) m.why = k at *
 go_enter Tryz.func88, Tryz.ntmps88
 go_upto_region 1 with fail
 rw [← sR.out]
 clear sR
 generalize w.heap.size + 1 = bx2 at HI ⊢
 generalize w.heap.size = bx1 at HI ⊢
 go_wp2_with (go_at_call 138; refine HI.out.mono ?_; rintro e1 w1 ⟨rfl, hk2⟩; have s8 := BO (sW.out.trans hk2 (fun _ h => h.elim)); clear hk2 HI c0 c1 c2 c3)
 go_ret
 exact ⟨rfl, s8.out⟩
theorem infoW : (Tryz.prog.info? tRs).map (fun i => (i.zero, i.size, i.bytes)) = some (some (.agg #[.int .i64 0, .int .i64 0, .int .i64 0, .int .i64 0, .bool false, .int .i64 0, .string ⟨#[]⟩, .slice none 0 0, .int .i64 0, .int .i64 0, .bool false, .int .i64 0, .string ⟨#[]⟩, .bool false, .int .i64 0, .string ⟨#[]⟩, .slice none 0 0, .int .u8 0]), 18, 200) := by kernel_rfl
theorem l7 (w : World) (n : Int) (x : ClmE) (y : Int) : (Instr.build tRs #[(0, .int .i64 n), (1, .agg x.cells.toArray), (2, .int .u8 y)]).run Tryz.prog w = .ok (.agg (bv ⟨n, x, y⟩).toArray) w := run_build w _ _ _ (by kernel_rfl)
theorem mz {w : World} {o : Oper} {a : Act} {K : Act → Prop} (xo xc xw : Operand) (ho : o.op = .build tRs #[(0, xo), (1, xc), (2, xw)]) (n : Int) (x : ClmE) (y : Int) (h1 : a.eval xo = .int .i64 n) (h2 : a.eval xc = .agg x.cells.toArray) (h3 : a.eval xw = .int .u8 y)
  (h : K (a.put o.dst (.agg (bv ⟨n, x, y⟩).toArray))) : o.still Tryz.prog a w K := by
 have hrun := l7 w n x y
 unfold Oper.still execOp
 simp only [ho, List.map_toArray, List.map_cons, List.map_nil, h1, h2, h3, Sem.run_bind, Sem.run_pure, Result.andThen_ok, hrun]
 rw [Oper.stillUpon_value]
 exact h
theorem oK {l : List Rsn} {o : Int} {c : Clm} {w : Int} {k : Nat} {r : Rsn} (h : atR l o c = some k) (hr : l[k]? = some r) : cV l o c w = l.set k (orR w r) := by unfold cV; rw [h]; dsimp only; rw [hr]
theorem nF {l : List Rsn} {o : Int} {c : Clm} {w : Int} (h : atR l o c = none) : cV l o c w = l ++ [⟨o, c, w⟩] := by unfold cV; rw [h]
theorem nL {B w : World} {D : PH} {l : List HP} {L : Nat} {ts : List (List Bool)} {room : Int} {m : LkM} (o : Int) (c : ClmE) (why : Int) (hM : m.why.length ≤ 100000) (hc : ClOk D c) (h : Sat B D w (b7 D L ts room m :: l)) :
  Calls Tryz.prog 47 #[.pointer (some ⟨L, 0, none⟩), .int .i64 o, .agg c.cells.toArray, .int .u8 why] w fun e w' => e = .returned (.tuple #[]) ∧ Sat B D w' (b7 D L ts room ⟨m.q, cV m.why o c.c why⟩ :: l) := by
 obtain ⟨i0, hi, hz0, hz1, hz2⟩ := info_parts infoW
 have HI := BO (And.intro hi (And.intro hz0 (And.intro hz1 hz2)))
 obtain ⟨W1, hW1, hs1⟩ := Sat.hide (h.alloc c.cells.toArray tCl)
 have sR := BO hW1
 have HL := BO (ay (ai (hs1.blk 0 rfl)))
 have uR := BO (at_W o c (PH.le.refl _) hc hs1.swap)
 have sS := BO hs1
 have HC := BO hc
 clear hi hz0 hz1 hz2 h hs1 hW1 hc
 rcases my m.why o c.c with ⟨k, hk1, hk2, hk3⟩ | ⟨hk1, hk2⟩
 ·rw [hk2] at uR
  have HK := BO hk1
  clear hk1 hk2
  go_enter Tryz.func47, Tryz.ntmps47
  go_upto_region 1 with fail
  rw [← sR.out]
  clear sR
  generalize w.heap.size = bx at *
  go_upto_region 2 with (first | (refine ag rfl _ _ rfl _ _ rfl _ HL.out ?_) | (go_at_call 88; refine uR.out.mono ?_; rintro e1 w1 ⟨rfl, hk⟩; have sX := BO (sS.out.kept hk); clear hk uR HL sS))
  obtain ⟨q, tv, rv, rs, ht, hr, h3⟩ := bW sX.out.swap
  have hlr : rs.length = m.why.length := by rw [← hr.1, List.length_map]
  obtain ⟨N, hN⟩ : ∃ N, N = rs.length := ⟨_, rfl⟩
  obtain ⟨ra, rc, rfl⟩ := (h3.front 2 rfl).own_shape
  obtain ⟨x, hx⟩ : ∃ x, rs[k]? = some x := ⟨rs[k]'(by omega), List.getElem?_eq_getElem _⟩
  obtain ⟨g, og, rfl, hrng⟩ := aD jv (h3.own 2 rfl).rd hx rfl
  obtain ⟨g', hg'⟩ : ∃ g', (some ⟨g, og, none⟩ : Option Addr) = some ⟨g', 0, none⟩ := by
   rcases (h3.own 2 rfl).2.2 with ⟨h1, h2⟩ | ⟨g', c2, cur, h1, _⟩
   ·omega
   ·cases h1; exact ⟨_, rfl⟩
  cases hg'
  obtain ⟨x0, x17⟩ := whyW hrng
  rw [Nat.zero_add] at x0 x17
  obtain ⟨c0, c1, c2, c3, cf⟩ := bA (h3.blk 0 rfl)
  obtain ⟨cur, hrow, _⟩ := (h3.front 2 rfl).own_row
  have gf := frz (hrow.blk 0 rfl)
  have hkl : (k : Int) < (N : Int) := by omega
  rw [← hN] at c3
  have HT := BO ht
  have HR := BO hr
  have HX := BO hx
  have vZ := BO ((h3.front 2 rfl).own_set (k * 18 + 17) (.int .u8 (bits .or .u8 x.why why)) rfl)
  have HF := BO (kd jv (x := x) (y := ⟨x.o, x.x, bits .or .u8 x.why why⟩) (u := .int .u8 (bits .or .u8 x.why why)) (j := 17) (by decide) rfl rs k hx)
  have HN := BO hN
  clear hr ht hx hrng h3 hrow sX hlr hN
  go_wp2_with fail
  refine bodyPost_ret (results_none rfl _ _ _) rfl ?_
  refine ⟨rfl, ?_⟩
  have hs5 := vZ.out
  rw [HF.out] at hs5
  have hget : m.why[k]? = some (it x) := by rw [← HR.out.1, List.getElem?_map, HX.out]; rfl
  refine bN (rs := rs.set k ⟨x.o, x.x, bits .or .u8 x.why why⟩) HT.out ⟨?_, ?_⟩ (q := q) (rv := .slice (some ⟨g, 0, none⟩) rs.length rc) ?_
  ·rw [oK HK.out hget, ← HR.out.1, List.map_set]
   rfl
  ·intro y hy
   rcases List.mem_or_eq_of_mem_set hy with h | h
   ·exact HR.out.2 y h
   ·subst h; exact HR.out.2 x (List.mem_of_getElem? HX.out)
  ·show Sat B D _ (_ :: _ :: aJ tRs 18 (.slice (some ⟨g, 0, none⟩) rs.length rc) (rs.set k _).length _ :: l)
   rw [List.length_set]
   have h6 := (hs5.front 3 rfl).drop
   exact h6.rot
 ·rw [hk2] at uR
  have HK := BO hk1
  clear hk1 hk2
  go_enter Tryz.func47, Tryz.ntmps47
  go_upto_region 1 with fail
  rw [← sR.out]
  clear sR
  generalize w.heap.size = bx at *
  go_upto_region 2 with (first | (refine ag rfl _ _ rfl _ _ rfl _ HL.out ?_) | (go_at_call 88; refine uR.out.mono ?_; rintro e1 w1 ⟨rfl, hk⟩; have sX := BO (sS.out.kept hk); clear hk uR HL sS))
  obtain ⟨q, tv, rv, rs, ht, hr, h3⟩ := bW sX.out.swap
  have hlr : rs.length ≤ 100000 := by rw [← List.length_map (f := it), hr.1]; exact hM
  obtain ⟨ra, rc, rfl⟩ := (h3.front 2 rfl).own_shape
  obtain ⟨c0, c1, c2, c3, cf⟩ := bA (h3.blk 0 rfl)
  have HT := BO ht
  have HR := BO hr
  have HL := BO (ay (ai (h3.drew.blk 3 rfl)))
  have sU := BO (show Sat B D w1 (lkb L q tv room (.slice ra rs.length rc) :: aJ tRs 18 (.slice ra rs.length rc) rs.length (rs.flatMap bv) :: bP D q m.q :: blk bx c.cells.toArray tCl :: l) from (h3.front 2 rfl).swap)
  generalize hN : rs.length = N at *
  have HN := BO hN
  clear ht hr h3 sX hN
  go_upto_region 4 with fail
  refine af [(0, false, 13), (1, false, 10), (2, false, 10), (3, false, 10), (4, false, 10), (5, false, 9), (6, false, 9), (7, false, 9), (8, false, 9), (9, true, 0), (10, true, 0), (11, false, 13), (12, false, 13), (13, true, 0)] (by kernel_rfl) (by kernel_rfl) ?_
  iterate 9 (refine ae rfl rfl (fun K hK => ?_); (first | ((refine aj _ _ rfl _ _ rfl _ HL.out ?_); go_simp) | ((refine mz _ _ _ rfl _ _ _ rfl rfl rfl ?_); go_simp) | go_simp); refine hK _ ?_; clear hK K)
  refine al rfl ?_
  refine aC rfl _ _ rfl tRs i0 _ (bv ⟨o, c, why⟩) rfl Tryz.underlying75 HI.out.1 HI.out.2.1 (HI.out.2.2.1.trans rfl) (by rw [jv]; decide) (by rw [jv]; decide) ?_
  refine wpList_nil ?_
  obtain ⟨W4, hW4, hs4⟩ := Sat.hide (sU.out.drew.alloc (bv ⟨o, c, why⟩).toArray tRs)
  rw [← hW4]
  clear hW4 sU HL c0 c1 c2 c3 cf
  generalize w1.drew.heap.size = bz at hs4 ⊢
  obtain ⟨c0, c1, c2, c3, cf⟩ := bA (hs4.blk 1 rfl)
  have s5 := BO (aT (size := 18) (n := 1) (hs4.blk 0 rfl) (by simp [jv]) (by unfold maxLen; omega))
  have sY := BO (show Sat B D W4 (aJ tRs 18 (.slice ra N rc) N (rs.flatMap bv) :: blk bz (bv ⟨o, c, why⟩).toArray tRs :: lkb L q tv room (.slice ra N rc) :: bP D q m.q :: blk bx c.cells.toArray tCl :: l) from hs4.front 2 rfl)
  clear hs4
  refine And.intro ?_ ?_
  ·go_simp
  refine al rfl ?_
  refine ar _ rfl _ _ 75 rfl tRs i0 _ 18 200 Tryz.underlying75 HI.out.1 HI.out.2.1 HI.out.2.2.1 HI.out.2.2.2 rfl _ N _ rfl sY.out _ 1 _ rfl s5.out (by simpa using oneW ⟨o, c, why⟩) (by unfold maxLen; omega) (by omega) ?_
  intro v7 w7 hs7 h17
  refine wpList_nil ?_
  clear c0 c1 c2 c3 cf sY s5
  obtain ⟨c0, c1, c2, c3, cf⟩ := bA (hs7.blk 2 rfl)
  have td := BO (Sat.setQ (hs7.front 2 rfl) v7)
  clear hs7
  obtain ⟨va, vc, rfl⟩ : ∃ va vc, v7 = .slice va (N + 1) vc := (td.out.front 1 rfl).own_shape
  refine And.intro ?_ ?_
  ·go_simp
  iterate 2 (refine ae rfl rfl (fun K hK => ?_); (first | ((refine aj _ _ rfl _ _ rfl _ HL.out ?_); go_simp) | ((refine mz _ _ _ rfl _ _ _ rfl rfl rfl ?_); go_simp) | go_simp); refine hK _ ?_; clear hK K)
  refine al rfl ?_
  refine wpList_plain rfl (fun K hK => ?_)
  go_simp
  refine hK _ _ ?_
  clear hK K
  refine wpList_nil ?_
  refine And.intro ?_ ?_
  ·go_simp
  refine ap ?_
  go_wp2_with fail
  go_end0
  refine ⟨rfl, ?_⟩
  have h7 := (td.out.front 2 rfl).drop
  refine bN (rs := rs ++ [⟨o, c, why⟩]) HT.out ⟨?_, ?_⟩ (q := q) (rv := .slice va (N + 1) vc) ?_
  ·show _ = cV m.why o c.c why
   rw [nF HK.out, List.map_append, HR.out.1]
   rfl
  ·intro x hx
   rcases List.mem_append.1 hx with hx | hx
   ·exact HR.out.2 x hx
   ·obtain rfl := List.mem_singleton.1 hx
    exact HC.out
  ·show Sat B D _ (_ :: _ :: aJ tRs 18 _ (rs ++ [(⟨o, c, why⟩ : RsnE)]).length ((rs ++ [(⟨o, c, why⟩ : RsnE)]).flatMap bv) :: l)
   rw [List.length_append, HN.out, List.flatMap_append]
   have h8 := (h7.front 3 rfl).drop
   have h9 := (h8.front 2 rfl).front 1 rfl
   simpa using h9
abbrev gu (B : World) (D : PH) (l : List HP) (F : Nat) (caps : Array Value) (p : Clm → Bool) : Prop := ∀ c : ClmE, ClOk D c → PredS B D l F caps c.cells (p c.c)
theorem qh {B : World} {D : PH} {l : List HP} {b1 b2 F : Nat} {caps : Array Value} {o : Int} (p : Clm → Bool) (hent : Enters Tryz.prog F) (HF : gu B D l F caps p) (x : RsnE) (hx : ClOk D x.x)
  (i j : Nat) (hi : l[i]? = some (blk b1 #[.int .i64 o] 3)) (hj : l[j]? = some (blk b2 #[.func (.func F) #[] caps] 63)) :
  PredS B D l 92 #[.pointer (some ⟨b1, 0, none⟩), .pointer (some ⟨b2, 0, none⟩)] (bv x) (decide (x.o = o) && p x.x.c) := by
 intro W X hX
 obtain ⟨W1, hW1, hs1⟩ := Sat.hide (hX.alloc (bv x).toArray tRs)
 have HC := BO (HF x.x hx W1 (blk W.heap.size (bv x).toArray tRs :: X) hs1)
 have hi' : (X ++ l)[X.length + i]? = some (blk b1 #[.int .i64 o] 3) := by rw [List.getElem?_append_right (by omega), Nat.add_sub_cancel_left, hi]
 have hj' : (X ++ l)[X.length + j]? = some (blk b2 #[.func (.func F) #[] caps] 63) := by rw [List.getElem?_append_right (by omega), Nat.add_sub_cancel_left, hj]
 obtain ⟨c0, _⟩ := aM (hs1.blk (X.length + i + 1) (by rw [List.getElem?_cons_succ]; exact hi'))
 obtain ⟨d0, _⟩ := aM (hs1.blk (X.length + j + 1) (by rw [List.getElem?_cons_succ]; exact hj'))
 have sW := BO (show Kept (fun _ => False) W W1 by rw [hW1]; exact (Kept.refl _ _).alloc _)
 have tu := BO (hs1.blk 0 rfl)
 have sR := BO hW1
 clear hX hs1 hW1 hi hj hi' hj' HF hx
 unfold Enters at hent
 show Calls Tryz.prog 92 #[.agg (bv x).toArray, .pointer (some ⟨b1, 0, none⟩), .pointer (some ⟨b2, 0, none⟩)] W _
 by_cases ho : x.o = o
 ·have HO := BO (show (decide (x.o = o) && p x.x.c) = p x.x.c by simp [ho])
  rw [HO.out]
  generalize p x.x.c = rr at *
  go_enter Tryz.func92, Tryz.ntmps92
  go_upto_region 1 with fail
  rw [← sR.out]
  clear sR HO
  generalize W.heap.size = bx at tu ⊢
  have x0 := (sM tu.out).1
  have tA := BO (ay (sf tu.out))
  rw [ho] at x0
  clear ho
  go_wp2_with (first | (refine bG rfl _ _ rfl _ _ rfl _ tA.out ?_) | (refine HC.out.mono ?_; rintro e1 w1 ⟨rfl, hk3⟩; have s8 := BO (sW.out.trans hk3 (fun _ h => h.elim)); clear hk3 HC x0 c0 d0 tA))
  go_ret
  exact ⟨rfl, s8.out⟩
 ·have HO := BO (show (decide (x.o = o) && p x.x.c) = false by simp [ho])
  have hne : (x.o == o) = false := by simpa using ho
  rw [HO.out]
  go_enter Tryz.func92, Tryz.ntmps92
  go_upto_region 1 with fail
  rw [← sR.out]
  clear sR HO HC
  generalize W.heap.size = bx at tu ⊢
  have x0 := (sM tu.out).1
  clear ho
  go_wp2_with fail
  go_ret
  exact ⟨rfl, sW.out⟩
theorem kg {B w : World} {D : PH} {l : List HP} {L F : Nat} {caps : Array Value} {ts : List (List Bool)} {room : Int} {m : LkM} (o : Int) (p : Clm → Bool) (hent : Enters Tryz.prog F) (HF : gu B D l F caps p) (h : Sat B D w (b7 D L ts room m :: l)) :
  Calls Tryz.prog 52 #[.pointer (some ⟨L, 0, none⟩), .int .i64 o, .func (.func F) #[] caps] w fun e w' => e = .returned (.tuple #[]) ∧ Sat B D w' (b7 D L ts room ⟨m.q, bD m.why o p⟩ :: l) := by
 obtain ⟨q, tv, rv, rs, ht, hr, h1⟩ := bW h
 obtain ⟨W1, hW1, hs1⟩ := cy h1 #[.int .i64 o] #[.func (.func F) #[] caps] 3 63
 have sR := BO hW1
 obtain ⟨pf, hpf⟩ : ∃ pf : RsnE → Bool, pf = fun x => decide (x.o = o) && p x.x.c := ⟨_, rfl⟩
 have Bw := BO hpf
 have ur := BO (hY (F := 92) (caps := #[.pointer (some ⟨w.heap.size, 0, none⟩), .pointer (some ⟨w.heap.size + 1, 0, none⟩)]) pf rfl (enters_of Tryz.func92 (by kernel_rfl) rfl) (hs1.front 4 rfl) (fun x hx => by rw [hpf]; exact qh (b1 := w.heap.size) (b2 := w.heap.size + 1) p hent (fun c hc => (HF c hc).more [_, _, _, _]) x (hr.2 x hx) 0 1 rfl rfl))
 obtain ⟨c0, c1, c2, c3, cf⟩ := bA (hs1.blk 2 rfl)
 have HT := BO ht
 have HR := BO hr
 clear h h1 hs1 hW1 ht hr HF hent hpf
 go_enter Tryz.func52, Tryz.ntmps52
 go_upto_region 1 with fail
 rw [← sR.out]
 clear sR
 generalize w.heap.size + 1 = bx2 at ur ⊢
 generalize w.heap.size = bx1 at ur ⊢
 go_wp2_with (go_at_call 89; refine ur.out.mono ?_; rintro e1 w1 ⟨v1, rfl, hs2⟩; obtain ⟨va, vc, rfl⟩ := hs2.own_shape; clear c0 c1 c2 c3 cf ur; obtain ⟨c0, c1, c2, c3, cf⟩ := bA (hs2.blk 3 rfl); have sX := BO (Sat.setQ (hs2.front 3 rfl) (.slice va (rs.filter (fun x => !pf x)).length vc)); clear hs2)
 go_end0
 refine ⟨rfl, ?_⟩
 refine bN (rs := rs.filter (fun x => !pf x)) HT.out ⟨?_, fun x hx => HR.out.2 x (List.mem_filter.1 hx).1⟩ (q := q) (rv := .slice va (rs.filter (fun x => !pf x)).length vc) ?_
 ·show _ = bD m.why o p
  unfold bD
  rw [← HR.out.1, List.filter_map, Bw.out]
  rfl
 ·have h5 := ((sX.out.front 2 rfl).drop.front 2 rfl).drop
  exact (h5.front 2 rfl).front 1 rfl
theorem hasF_W {w : World} {b : Nat} {c : ClmE} (h2 : w.heap[b]? = some (.cells c.cells.toArray tCl (0, 0))) (hc : RdCl w c) (x : ClmE) (hx : RdCl w x) :
  PredF 84 #[.pointer (some ⟨b, 0, none⟩)] w x.cells (RC.same x.c c.c) := by
 refine ⟨enters_of Tryz.func84 (by kernel_rfl) rfl, fun W hW => ?_⟩
 obtain ⟨W1, hW1, hk1, hbx, hb1⟩ := bQ (aA hW h2) x.cells.toArray tCl
 have hk2 := hW.trans hk1 (fun _ h => h.elim)
 have sR := BO hW1
 have sW := BO hk1
 have tA := BO (ay (ai hbx))
 have tU := BO (ay (ai hb1))
 have tD := BO (eR (hx.kept hk2) (hc.kept hk2))
 clear h2 hW hW1 hk1 hk2 hbx hb1
 show Calls Tryz.prog 84 #[.agg x.cells.toArray, .pointer (some ⟨b, 0, none⟩)] W _
 generalize RC.same x.c c.c = rr at *
 go_enter Tryz.func84, Tryz.ntmps84
 go_upto_region 1 with fail
 rw [← sR.out]
 clear sR
 generalize W.heap.size = bx at tA ⊢
 go_wp2_with (first | (refine ag rfl _ _ rfl _ _ rfl _ tA.out ?_) | (refine ag rfl _ _ rfl _ _ rfl _ tU.out ?_) | (go_at_call 74; refine tD.out.mono ?_; rintro e1 w1 ⟨rfl, hk3⟩; have s8 := BO (sW.out.trans hk3 (fun _ h => h.elim)); clear hk3 tD tA tU))
 go_ret
 exact ⟨rfl, s8.out⟩
theorem has_W {B w : World} {D : PH} {l : List HP} {L : Nat} {ts : List (List Bool)} {room : Int} {m : LkM} (o : Int) (c : ClmE) (hM : m.q.held.length ≤ 100000) (hc : ClOk D c) (h : Sat B D w (b7 D L ts room m :: l)) :
  Calls Tryz.prog 43 #[.pointer (some ⟨L, 0, none⟩), .int .i64 o, .agg c.cells.toArray] w fun e w' => e = .returned (.bool (fi m o c.c)) ∧ Sat B D w' (b7 D L ts room m :: l) := by
 obtain ⟨q, tv, rv, rs, ht, hr, h1⟩ := bW h
 obtain ⟨W1, hW1, hs1⟩ := Sat.hide (h1.alloc c.cells.toArray tCl)
 have sR := BO hW1
 have ue := BO (jE o hM (hs1.front 2 rfl))
 obtain ⟨c0, c1, c2, c3, cf⟩ := bA (hs1.blk 1 rfl)
 have HT := BO ht
 have HR := BO hr
 have HC := BO hc
 clear h h1 hs1 hW1 ht hr hc
 go_enter Tryz.func43, Tryz.ntmps43
 go_upto_region 1 with fail
 rw [← sR.out]
 clear sR
 generalize w.heap.size = bx at ue ⊢
 go_wp2_with (first
  | (go_at_call 49; refine ue.out.mono ?_; rintro e1 w1 ⟨v1, rfl, hs2⟩; obtain ⟨cs, hcs, hok, hs3⟩ := d4 hs2; have vS := BO (fZ (fun x => RC.same x.c c.c) (hs3.own 0 rfl).rd (fun x hx => hasF_W (hs3.blk 2 rfl) (HC.out.rd hs3) x ((hok x hx).rd hs3))); have sU := BO hs3; have ui := BO hcs; clear hs2 hs3 hok hcs ue c0 c1 c2 c3 cf)
  | (go_at_call 83; refine vS.out.mono ?_; rintro e2 w2 ⟨rfl, hk2⟩; have sY := BO (sU.out.kept hk2); clear hk2 vS sU))
 go_ret
 refine ⟨?_, ?_⟩
 ·unfold fi
  rw [← ui.out, List.any_map]
  rfl
 ·have h5 := sY.out.drop
  have h6 := (h5.front 1 rfl).drop
  exact bN HT.out HR.out (h6.front 1 rfl)
theorem cu {B w : World} {D D' D0 : PH} {l : List HP} {L : Nat} {ts : List (List Bool)} {room : Int} {m : LkM} (h : Sat B D0 w (b7 D L ts room m :: l)) (le : PH.le D D') : Sat B D0 w (b7 D' L ts room m :: l) := by
 obtain ⟨q, tv, rv, rs, ht, hr, h1⟩ := bW h
 exact bN (ht.mono le) (hr.mono le) ((gY h1.swap le).swap)
theorem rY {B : World} {D : PH} {l : List HP} {b F : Nat} {caps : Array Value} (p : Clm → Bool) (hent : Enters Tryz.prog F) (HF : gu B D l F caps p) (x : ClmE) (hx : ClOk D x)
  (i : Nat) (hi : l[i]? = some (blk b #[.func (.func F) #[] caps] 63)) :
  PredS B D l 94 #[.pointer (some ⟨b, 0, none⟩)] x.cells (!p x.c) := by
 intro W X hX
 obtain ⟨W1, hW1, hs1⟩ := Sat.hide (hX.alloc x.cells.toArray tCl)
 have HC := BO (HF x hx W1 (blk W.heap.size x.cells.toArray tCl :: X) hs1)
 have hi' : (X ++ l)[X.length + i]? = some (blk b #[.func (.func F) #[] caps] 63) := by rw [List.getElem?_append_right (by omega), Nat.add_sub_cancel_left, hi]
 obtain ⟨c0, _⟩ := aM (hs1.blk (X.length + i + 1) (by rw [List.getElem?_cons_succ]; exact hi'))
 have sW := BO (show Kept (fun _ => False) W W1 by rw [hW1]; exact (Kept.refl _ _).alloc _)
 have tA := BO (ay (ai (hs1.blk 0 rfl)))
 have sR := BO hW1
 clear hX hs1 hW1 hi hi' HF hx
 unfold Enters at hent
 show Calls Tryz.prog 94 #[.agg x.cells.toArray, .pointer (some ⟨b, 0, none⟩)] W _
 generalize p x.c = rr at *
 go_enter Tryz.func94, Tryz.ntmps94
 go_upto_region 1 with fail
 rw [← sR.out]
 clear sR
 generalize W.heap.size = bx at tA ⊢
 go_wp2_with (first | (refine ag rfl _ _ rfl _ _ rfl _ tA.out ?_) | (refine HC.out.mono ?_; rintro e1 w1 ⟨rfl, hk3⟩; have s8 := BO (sW.out.trans hk3 (fun _ h => h.elim)); clear hk3 HC c0 tA))
 go_ret
 exact ⟨rfl, s8.out⟩
theorem px {B w : World} {D : PH} {l : List HP} {L F : Nat} {caps : Array Value} {ts : List (List Bool)} {room : Int} {m : LkM} (o : Int) (p : Clm → Bool) (hD : EnvD D) (hM : m.q.held.length + m.q.waits.length ≤ 1000) (hent : Enters Tryz.prog F) (HF : gu B D (b7 D L ts room m :: l) F caps p) (h : Sat B D w (b7 D L ts room m :: l)) :
  Calls Tryz.prog 53 #[.pointer (some ⟨L, 0, none⟩), .int .i64 o, .func (.func F) #[] caps] w fun e w' => ∃ v D', e = .returned v ∧ PH.le D D' ∧ Sat B D' w' (b7 D' L ts room (lj m o p).1 :: cq v (lj m o p).2 :: l) := by
 obtain ⟨W1, hW1, hs1⟩ := Sat.hide (h.alloc #[.func (.func F) #[] caps] 63)
 obtain ⟨q, tv, rv, rs, ht, hr, h1⟩ := bW hs1.swap
 have sR := BO hW1
 have ue := BO (jE o (by omega) (h1.front 1 rfl))
 obtain ⟨c0, c1, c2, c3, cf⟩ := bA (h1.blk 0 rfl)
 have HT := BO ht
 have HR := BO hr
 have HF' := BO HF
 have HD := BO hD
 clear h h1 hs1 hW1 ht hr HF hD
 have hent' := hent
 go_enter Tryz.func53, Tryz.ntmps53
 go_upto_region 1 with fail
 rw [← sR.out]
 clear sR
 generalize w.heap.size = bx at ue ⊢
 go_upto_region 2 with (first
  | (go_at_call 49; refine ue.out.mono ?_; rintro e1 w1 ⟨v1, rfl, hs2⟩; obtain ⟨cs, hcs, hok, hs3⟩ := d4 hs2; have hs4 : Sat B D w1 (aJ tCl 16 v1 cs.length (cs.flatMap ClmE.cells) :: blk bx #[.func (.func F) #[] caps] 63 :: b7 D L ts room m :: l) := (bN HT.out HR.out (((hs3.front 3 rfl).front 2 rfl).front 3 rfl)).rot; have ur := BO (kU (F := 94) (caps := #[.pointer (some ⟨bx, 0, none⟩)]) (fun x => !p x.c) rfl (enters_of Tryz.func94 (by kernel_rfl) rfl) hs4 (fun x hx => rY (b := bx) p hent (fun c hc => (HF'.out c hc).more [_]) x (hok x hx) 0 rfl)); have ui := BO hcs; have tJ := BO hok; clear hs2 hs3 hs4 hok hcs ue c0 c1 c2 c3 cf)
  | (go_at_call 93; refine ur.out.mono ?_; rintro e2 w2 ⟨v2, rfl, hs5⟩; have sV := BO hs5; clear hs5 ur))
 clear hent hent' HF'
 obtain ⟨D1, hle, hrd, hs6⟩ := sV.out.own_give
 obtain ⟨q, tv, rv, rs, ht, hr, h7⟩ := bW (cu hs6.drop hle)
 obtain ⟨c0, c1, c2, c3, cf⟩ := bA (h7.blk 0 rfl)
 have hmap : (cs.filter (fun x => !(!p x.c))).map ClmE.c = (aE m.q o).filter p := by
  rw [← ui.out, List.filter_map]
  congr 1
  exact List.filter_congr (fun x _ => by simp)
 have uD := BO (Drop_C o v2 (cs.filter (fun x => !(!p x.c))) hrd (fun c hc => (tJ.out c (List.mem_filter.1 hc).1).mono hle) (HD.out.mono hle) hM h7.swap)
 rw [hmap] at uD
 have HT := BO ht
 have HR := BO hr
 have tt := BO hle
 clear hle hrd hs6 h7 hmap ht hr sV tJ ui
 go_wp2_with (go_at_call 95; refine uD.out.mono ?_; rintro e3 w3 ⟨u, rfl, hs8⟩; have tj := BO hs8; clear hs8 uD)
 go_ret
 refine ⟨_, D1, rfl, tt.out, bN HT.out HR.out (m := (lj m o p).1) (q := q) (rv := rv) ?_⟩
 exact (((tj.out.front 1 rfl).front 3 rfl).front 2 rfl).front 3 rfl
def gR (o w : Int) (x : RsnE) : RsnE := if x.o = o then ⟨x.o, x.x, bits .andNot .u8 x.why w⟩ else x
def dy (rs : List RsnE) (o w : Int) (j : Nat) : List RsnE := (rs.take j).map (gR o w) ++ rs.drop j
theorem hC (rs : List RsnE) (o w : Int) (j : Nat) : (dy rs o w j).length = rs.length := by
 unfold dy
 rw [List.length_append, List.length_map, ← List.length_append, List.take_append_drop]
theorem kr {rs : List RsnE} {o w : Int} {j : Nat} {x : RsnE} (hx : rs[j]? = some x) : (dy rs o w j)[j]? = some x := by
 have hlt := (List.getElem?_eq_some_iff.1 hx).1
 unfold dy
 rw [List.getElem?_append_right (by rw [List.length_map, List.length_take]; omega), List.length_map, List.length_take, Nat.min_eq_left (by omega), Nat.sub_self, List.getElem?_drop, Nat.add_zero, hx]
theorem j0 {rs : List RsnE} {o w : Int} {j : Nat} {x : RsnE} (hx : rs[j]? = some x) : (dy rs o w j).set j (gR o w x) = dy rs o w (j + 1) := by
 obtain ⟨hlt, rfl⟩ := List.getElem?_eq_some_iff.1 hx
 have hj : ((rs.take j).map (gR o w)).length = j := by rw [List.length_map, List.length_take]; omega
 unfold dy
 rw [List.set_append_right _ _ (by omega), hj, Nat.sub_self, List.drop_eq_getElem_cons hlt, BR, List.take_add_one, List.getElem?_eq_getElem hlt, List.map_append]
 simp only [Option.toList_some, List.map_cons, List.map_nil, List.append_assoc, List.cons_append, List.nil_append]
theorem pO {rs : List RsnE} {o w : Int} {j : Nat} {x : RsnE} (hx : rs[j]? = some x) (h : ¬ x.o = o) : dy rs o w j = dy rs o w (j + 1) := by
 rw [← j0 hx]
 have h1 : gR o w x = x := by unfold gR; rw [if_neg h]
 rw [h1]
 refine List.ext_getElem? (fun i => ?_)
 rw [List.getElem?_set]
 split
 ·rename_i hi
  subst hi
  rw [kr hx]
  split
  ·rfl
  ·rename_i hl
   rw [hC] at hl
   exact absurd (List.getElem?_eq_some_iff.1 hx).1 hl
 ·rfl
theorem pS {D : PH} {rs : List RsnE} {o w : Int} {j : Nat} (h : ∀ x ∈ rs, OkW D x) : ∀ x ∈ dy rs o w j, OkW D x := by
 intro x hx
 unfold dy at hx
 rcases List.mem_append.1 hx with hx | hx
 ·obtain ⟨y, hy, rfl⟩ := List.mem_map.1 hx
  have := h y (List.mem_of_mem_take hy)
  unfold gR
  split
  ·exact this
  ·exact this
 ·exact h x (List.mem_of_mem_drop hx)
theorem ol {rs : List RsnE} {L : List Rsn} {o w : Int} (h : rs.map it = L) : (dy rs o w rs.length).map it = L.map (eZ o w) := by
 unfold dy
 rw [List.take_length, List.drop_length, List.append_nil, ← h, List.map_map, List.map_map]
 refine List.map_congr_left (fun x _ => ?_)
 show it (gR o w x) = eZ o w (it x)
 unfold gR eZ
 by_cases hx : x.o = o
 ·rw [if_pos hx, if_pos hx]
 ·rw [if_neg hx, if_neg hx]
theorem overF_W {B : World} {D : PH} {l : List HP} (x : RsnE) : PredS B D l 90 #[] (bv x) (decide (x.why = 0)) := by
 intro W X hX
 obtain ⟨W1, hW1, hs1⟩ := Sat.hide (hX.alloc (bv x).toArray tRs)
 have sW := BO (show Kept (fun _ => False) W W1 by rw [hW1]; exact (Kept.refl _ _).alloc _)
 have tu := BO (hs1.blk 0 rfl)
 have sR := BO hW1
 clear hX hs1 hW1
 show Calls Tryz.prog 90 #[.agg (bv x).toArray] W _
 go_enter Tryz.func90, Tryz.ntmps90
 go_upto_region 1 with fail
 rw [← sR.out]
 clear sR
 generalize W.heap.size = bx at tu ⊢
 have x17 := (sM tu.out).2
 go_wp2_with fail
 go_ret
 exact ⟨by by_cases hw : x.why = 0 <;> simp [hw], sW.out⟩
theorem r7 {B : World} {D : PH} {l : List HP} {b1 b2 L : Nat} {ts : List (List Bool)} {room : Int} {m : LkM} {o : Int} (i j : Nat) (hi : l[i]? = some (blk b1 #[.pointer (some ⟨L, 0, none⟩)] 23)) (hj : l[j]? = some (blk b2 #[.int .i64 o] 3)) :
  gu B D (b7 D L ts room m :: l) 91 #[.pointer (some ⟨b1, 0, none⟩), .pointer (some ⟨b2, 0, none⟩)] (fun c => (atR m.why o c).isNone) := by
 intro x hx W X hX
 obtain ⟨W1, hW1, hs1⟩ := Sat.hide (hX.alloc x.cells.toArray tCl)
 have hi' : (X ++ (b7 D L ts room m :: l))[X.length + (i + 1)]? = some (blk b1 #[.pointer (some ⟨L, 0, none⟩)] 23) := by rw [List.getElem?_append_right (by omega), Nat.add_sub_cancel_left, List.getElem?_cons_succ, hi]
 have hj' : (X ++ (b7 D L ts room m :: l))[X.length + (j + 1)]? = some (blk b2 #[.int .i64 o] 3) := by rw [List.getElem?_append_right (by omega), Nat.add_sub_cancel_left, List.getElem?_cons_succ, hj]
 have hk' : (X ++ (b7 D L ts room m :: l))[X.length]? = some (b7 D L ts room m) := by rw [List.getElem?_append_right (by omega), Nat.sub_self]; rfl
 obtain ⟨c0, _⟩ := aM (hs1.blk (X.length + (i + 1) + 1) (by rw [List.getElem?_cons_succ]; exact hi'))
 obtain ⟨d0, _⟩ := aM (hs1.blk (X.length + (j + 1) + 1) (by rw [List.getElem?_cons_succ]; exact hj'))
 have uR := BO (at_W o x (PH.le.refl _) hx (hs1.front (X.length + 1) (by rw [List.getElem?_cons_succ]; exact hk')))
 have sW := BO (show Kept (fun _ => False) W W1 by rw [hW1]; exact (Kept.refl _ _).alloc _)
 have tA := BO (ay (ai (hs1.blk 0 rfl)))
 have sR := BO hW1
 clear hX hs1 hW1 hi hj hi' hj' hk' hx
 show Calls Tryz.prog 91 #[.agg x.cells.toArray, .pointer (some ⟨b1, 0, none⟩), .pointer (some ⟨b2, 0, none⟩)] W fun e W' => e = .returned (.bool (atR m.why o x.c).isNone) ∧ Kept (fun _ => False) W W'
 rcases my m.why o x.c with ⟨k, hk1, hk2, hk3⟩ | ⟨hk1, hk2⟩
 ·rw [hk2] at uR
  have HK := BO hk1
  clear hk1 hk2 hk3
  rw [HK.out]
  go_enter Tryz.func91, Tryz.ntmps91
  go_upto_region 1 with fail
  rw [← sR.out]
  clear sR
  generalize W.heap.size = bx at tA ⊢
  go_wp2_with (first | (refine ag rfl _ _ rfl _ _ rfl _ tA.out ?_) | (go_at_call 88; refine uR.out.mono ?_; rintro e1 w1 ⟨rfl, hk3⟩; have s8 := BO (sW.out.trans hk3 (fun _ h => h.elim)); clear hk3 uR c0 d0 tA))
  go_ret
  exact ⟨by simp, s8.out⟩
 ·rw [hk2] at uR
  have HK := BO hk1
  clear hk1 hk2
  rw [HK.out]
  go_enter Tryz.func91, Tryz.ntmps91
  go_upto_region 1 with fail
  rw [← sR.out]
  clear sR
  generalize W.heap.size = bx at tA ⊢
  go_wp2_with (first | (refine ag rfl _ _ rfl _ _ rfl _ tA.out ?_) | (go_at_call 88; refine uR.out.mono ?_; rintro e1 w1 ⟨rfl, hk3⟩; have s8 := BO (sW.out.trans hk3 (fun _ h => h.elim)); clear hk3 uR c0 d0 tA))
  go_ret
  exact ⟨by simp, s8.out⟩
theorem sd {B w : World} {D : PH} {l : List HP} {L : Nat} {ts : List (List Bool)} {room : Int} {m : LkM} (o why : Int) (hD : EnvD D) (hM : m.q.held.length + m.q.waits.length ≤ 1000) (hW : m.why.length ≤ 100000) (h : Sat B D w (b7 D L ts room m :: l)) :
  Calls Tryz.prog 48 #[.pointer (some ⟨L, 0, none⟩), .int .i64 o, .int .u8 why] w fun e w' => ∃ v D', e = .returned v ∧ PH.le D D' ∧ Sat B D' w' (b7 D' L ts room (di m o why).1 :: cq v (di m o why).2 :: l) := by
 obtain ⟨q, tv, rv, rs, ht, hr, h1⟩ := bW h
 obtain ⟨W1, hW1, hs1⟩ := cy h1 #[.pointer (some ⟨L, 0, none⟩)] #[.int .i64 o] 23 3
 obtain ⟨ra, rc, rfl⟩ := (hs1.front 4 rfl).own_shape
 have hlr : rs.length ≤ 100000 := by rw [← List.length_map (f := it), hr.1]; exact hW
 obtain ⟨N, hN⟩ : ∃ N, N = rs.length := ⟨_, rfl⟩
 have hs1' : Sat B D W1 (aJ tRs 18 (.slice ra N rc) N ((dy rs o why 0).flatMap bv) :: blk w.heap.size #[.pointer (some ⟨L, 0, none⟩)] 23 :: blk (w.heap.size + 1) #[.int .i64 o] 3 :: lkb L q tv room (.slice ra N rc) :: bP D q m.q :: l) := by rw [hN]; exact hs1.front 4 rfl
 have sR := BO hW1
 have HN := BO hN.symm
 have hNM : N ≤ 100000 := by omega
 have HT := BO ht
 have HR := BO hr
 have HD := BO hD
 have sS := BO hs1'
 clear h h1 hs1 hs1' hW1 ht hr hD hN hlr hW
 go_enter Tryz.func48, Tryz.ntmps48
 go_upto_region 1 with fail
 rw [← sR.out]
 clear sR
 generalize w.heap.size + 1 = b2 at sS ⊢
 generalize w.heap.size = b1 at sS ⊢
 obtain ⟨d0, _⟩ := aM (sS.out.blk 1 rfl)
 obtain ⟨c0, c1, c2, c3, cf⟩ := bA (sS.out.blk 3 rfl)
 go_wp2_with fail
 go_loopw [13] (fun ii wr2 => ∃ (j : Nat), ii = .int .i64 j ∧ j ≤ N ∧ Sat B D wr2 (aJ tRs 18 (.slice ra N rc) N ((dy rs o why j).flatMap bv) :: blk b1 #[.pointer (some ⟨L, 0, none⟩)] 23 :: blk b2 #[.int .i64 o] 3 :: lkb L q tv room (.slice ra N rc) :: bP D q m.q :: l)) (fun ii _ => N - (intOf ii).toNat)
 case atStart => exact ⟨0, rfl, by omega, sS.out⟩
 case round =>
  obtain ⟨j, rfl, hj, hs2⟩ := hrel
  have sX := BO hs2
  clear hs2 sS c0 c1 c2 c3 cf d0
  by_cases hlt : j < N
  ·have hii : (j : Int) < (N : Int) := by omega
   obtain ⟨x, hx⟩ : ∃ x, rs[j]? = some x := ⟨rs[j]'(by rw [HN.out]; exact hlt), List.getElem?_eq_getElem _⟩
   have hxo := kr (o := o) (w := why) hx
   obtain ⟨g, og, rfl, hrng⟩ := aD jv (sX.out.drew.own 0 rfl).rd hxo (by rw [hC]; exact HN.out)
   obtain ⟨g', hg'⟩ : ∃ g', (some ⟨g, og, none⟩ : Option Addr) = some ⟨g', 0, none⟩ := by
    rcases (sX.out.own 0 rfl).2.2 with ⟨h1, h2⟩ | ⟨g', c2, cur, h1, _⟩
    ·omega
    ·cases h1; exact ⟨_, rfl⟩
   cases hg'
   obtain ⟨x0, x17⟩ := whyW hrng
   rw [Nat.zero_add] at x0 x17
   obtain ⟨d0, _⟩ := aM (sX.out.drew.blk 1 rfl)
   obtain ⟨e0, _⟩ := aM (sX.out.drew.blk 2 rfl)
   obtain ⟨c0, c1, c2, c3, cf⟩ := bA (sX.out.drew.blk 3 rfl)
   by_cases ho : x.o = o
   ·have Aj := BO (j0 (o := o) (w := why) hx)
    obtain ⟨cur, hrow, _⟩ := sX.out.drew.own_row
    have gf := frz (hrow.blk 0 rfl)
    have vZ := BO (sX.out.drew.own_set (j * 18 + 17) (.int .u8 (bits .andNot .u8 x.why why)) rfl)
    have HF := BO (kd jv (x := x) (y := ⟨x.o, x.x, bits .andNot .u8 x.why why⟩) (u := .int .u8 (bits .andNot .u8 x.why why)) (j := 17) (by decide) rfl _ j hxo)
    have tt := BO (show gR o why x = ⟨x.o, x.x, bits .andNot .u8 x.why why⟩ by unfold gR; rw [if_pos ho])
    rw [ho] at x0
    clear hx hxo hrng ho hrow sX
    go_upto_region 4 with fail
    refine af [(0, false, 999), (1, false, 999), (2, false, 999), (3, false, 999), (4, false, 999), (5, false, 999), (6, false, 999), (7, false, 999), (8, false, 999), (9, false, 999)] (by kernel_rfl) (by kernel_rfl) ?_
    iterate 10 (refine ae rfl rfl (fun K hK => ?_); go_simp; refine hK _ ?_; clear hK K)
    refine ap ?_
    go_wp2_with fail
    go_roundw
    case rel =>
     refine ⟨j + 1, by go_num, by omega, ?_⟩
     have h5 := vZ.out
     rw [HF.out, ← tt.out, Aj.out] at h5
     exact h5
    case measure => simp [intOf]; omega
   ·have tK := BO (pO (o := o) (w := why) hx ho)
    have hne : (x.o == o) = false := by simpa using ho
    have sU := BO sX.out.drew
    clear hx hxo hrng ho sX
    go_upto_region 4 with fail
    refine af [(0, false, 999), (1, false, 999), (2, false, 999), (3, false, 999), (4, false, 999), (5, false, 999), (6, false, 999), (7, false, 999), (8, false, 999), (9, false, 999)] (by kernel_rfl) (by kernel_rfl) ?_
    iterate 10 (refine ae rfl rfl (fun K hK => ?_); go_simp; refine hK _ ?_; clear hK K)
    refine ap ?_
    go_wp2_with fail
    go_roundw
    case rel => exact ⟨j + 1, by go_num, by omega, by rw [← tK.out]; exact sU.out⟩
    case measure => simp [intOf]; omega
  ·have hii : ¬ ((j : Int) < (N : Int)) := by omega
   obtain rfl : j = N := by omega
   obtain ⟨d0, _⟩ := aM (sX.out.drew.blk 1 rfl)
   obtain ⟨c0, c1, c2, c3, cf⟩ := bA (sX.out.drew.blk 3 rfl)
   obtain ⟨rs2, hrs2⟩ : ∃ rs2, rs2 = dy rs o why j := ⟨_, rfl⟩
   have zo := BO hrs2
   rw [← hrs2] at sX
   have hl2 : rs2.length = j := by rw [hrs2, hC]; exact HN.out
   have tU := BO hl2
   have ur := BO (hY (F := 90) (caps := #[]) (fun x => decide (x.why = 0)) hl2 (enters_of Tryz.func90 (by kernel_rfl) rfl) sX.out.drew (fun x _ => overF_W x))
   clear hrs2 hl2 sX
   go_upto_region 7 with fail
   refine af [(0, false, 8), (1, false, 5), (2, false, 5), (3, false, 5), (4, false, 5), (5, true, 0), (6, false, 8), (7, false, 8), (8, true, 0)] (by kernel_rfl) (by kernel_rfl) ?_
   iterate 5 (refine ae rfl rfl (fun K hK => ?_); go_simp; refine hK _ ?_; clear hK K)
   refine al rfl ?_
   refine aw rfl (fun K hK => ?_)
   go_simp
   refine ur.out.mono ?_
   rintro e3 w3 ⟨v3, rfl, hs3⟩
   obtain ⟨va, vc, rfl⟩ := hs3.own_shape
   clear d0 c0 c1 c2 c3 cf ur
   obtain ⟨d0, _⟩ := aM (hs3.blk 1 rfl)
   obtain ⟨c0, c1, c2, c3, cf⟩ := bA (hs3.blk 3 rfl)
   have sU := BO (Sat.setQ (hs3.front 3 rfl) (.slice va (rs2.filter (fun x => !decide (x.why = 0))).length vc))
   clear hs3
   refine hK _ _ ?_
   clear hK K
   refine wpList_nil ?_
   refine And.intro ?_ ?_
   ·go_simp
   iterate 2 (refine ae rfl rfl (fun K hK => ?_); go_simp; refine hK _ ?_; clear hK K)
   refine al rfl ?_
   refine wpList_plain rfl (fun K hK => ?_)
   go_simp
   refine hK _ _ ?_
   clear hK K
   refine wpList_nil ?_
   refine And.intro ?_ ?_
   ·go_simp
   refine ap ?_
   obtain ⟨W4, hW4, hs4⟩ := Sat.hide sU.out
   rw [← hW4]
   clear hW4 sU d0 c0 c1 c2 c3 cf
   have hs5 : Sat B D W4 (b7 D L ts room ⟨m.q, dA m.why o why⟩ :: blk b1 #[.pointer (some ⟨L, 0, none⟩)] 23 :: blk b2 #[.int .i64 o] 3 :: l) := by
    refine bN (rs := rs2.filter (fun x => !decide (x.why = 0))) HT.out ⟨?_, ?_⟩ (q := q) (rv := .slice va (rs2.filter (fun x => !decide (x.why = 0))).length vc) ?_
    ·show _ = dA m.why o why
     unfold dA
     rw [zo.out, ← ol HR.out.1, HN.out, List.filter_map]
     rfl
    ·intro x hx
     have h6 := (List.mem_filter.1 hx).1
     rw [zo.out] at h6
     exact pS HR.out.2 x h6
    ·exact (hs4.front 4 rfl).front 1 rfl
   obtain ⟨d0, _⟩ := aM (hs5.blk 1 rfl)
   obtain ⟨e0, _⟩ := aM (hs5.blk 2 rfl)
   have uD := BO (px (m := ⟨m.q, dA m.why o why⟩) o (fun c => (atR (dA m.why o why) o c).isNone) HD.out hM (enters_of Tryz.func91 (by kernel_rfl) rfl) (r7 (b1 := b1) (b2 := b2) 0 1 rfl rfl) hs5)
   clear hs4 hs5
   go_wp2_with (go_at_call 53; refine uD.out.mono ?_; rintro e6 w6 ⟨v6, D6, rfl, hle6, hs6⟩; have s0 := BO hs6; have tw := BO hle6; clear hs6 hle6 uD)
   go_ret
   exact ⟨_, D6, rfl, tw.out, s0.out.rm2.rm2⟩
theorem g8 {w : World} (dur hand : Int) : Calls Tryz.prog 41 #[.int .i64 dur, .int .i64 hand] w fun e w' => e = .returned (.int .u8 (cj dur hand)) ∧ w' = w := by
 by_cases h1 : dur = 1
 ·subst h1
  go_enter Tryz.func41, Tryz.ntmps41
  go_wp2_with fail
  go_ret
  exact ⟨rfl, rfl⟩
 by_cases h3 : dur = 3
 ·subst h3
  go_enter Tryz.func41, Tryz.ntmps41
  go_wp2_with fail
  go_ret
  exact ⟨rfl, rfl⟩
 have e1 : (dur == 1) = false := by simpa using h1
 have e3 : (dur == 3) = false := by simpa using h3
 by_cases h2 : dur = 2
 ·subst h2
  by_cases ha : hand = 1
  ·subst ha
   clear h1 h3 e1 e3
   go_enter Tryz.func41, Tryz.ntmps41
   go_wp2_with fail
   go_ret
   exact ⟨rfl, rfl⟩
  by_cases hb : hand = 2
  ·subst hb
   clear h1 h3 e1 e3 ha
   go_enter Tryz.func41, Tryz.ntmps41
   go_wp2_with fail
   go_ret
   exact ⟨rfl, rfl⟩
  have HB := BO (show cj 2 hand = 0 by unfold cj; rw [if_neg (by decide), if_neg (by decide), if_neg (by omega)])
  rw [HB.out]
  clear h1 h3 e1 e3
  by_cases hl : 1 ≤ hand
  ·have hu : ¬ hand ≤ 2 := by omega
   clear ha hb
   go_enter Tryz.func41, Tryz.ntmps41
   go_wp2_with fail
   go_ret
   exact ⟨rfl, rfl⟩
  ·clear ha hb
   go_enter Tryz.func41, Tryz.ntmps41
   go_wp2_with fail
   go_ret
   exact ⟨rfl, rfl⟩
 have e2 : (dur == 2) = false := by simpa using h2
 have HB := BO (show cj dur hand = 0 by unfold cj; rw [if_neg h1, if_neg h3, if_neg (fun h => h2 h.1)])
 rw [HB.out]
 go_enter Tryz.func41, Tryz.ntmps41
 go_wp2_with fail
 go_ret
 exact ⟨rfl, rfl⟩
theorem ch {P : Program} {ops : Array Oper} {i : Nat} {x : Pend} {l : List Pend} {w : World} (h1 : x.ok P ops w) (h2 : fe P ops i l w) : fe P ops i (x :: l) w := by
 unfold fe
 split
 ·exact h2
 ·exact ⟨h1, h2⟩
theorem mj {P : Program} {ops : Array Oper} {x : Pend} {w : World} (ty : TypeId) (y : Operand) (ho : x.o.op = .load ty y) (b i : Nat) (hy : x.a.eval y = .pointer (some ⟨b, i, none⟩)) (cs : List Value)
  (hl : (loadVar ty ⟨b, i, none⟩).run P w = .ok (.agg cs.toArray) w) (hb : x.a.put x.o.dst (.agg cs.toArray) = x.b) : x.ok P ops w := by
 unfold Pend.ok
 split
 ·exact aj ty y ho b i hy cs hl hb
 ·trivial
end Go.Proofs.YtgljdkjepdknnaaGreatDoor
