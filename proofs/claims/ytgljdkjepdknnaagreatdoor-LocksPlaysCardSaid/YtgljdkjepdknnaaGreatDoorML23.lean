/- Joined texts: The place of a reason (at); noting one; forgetting. Forgetting reasons; whether somebody has a claim. Dropping what somebody holds, where it is told to; ending a reason. Ending a reason of all claims of an owner. The bit of a reason. -/
import Derived.Test.YtgljdkjepdknnaaGreatDoorML22
import Derived.Test.YtgljdkjepdknnaaGreatDoorML10
import Derived.Test.YtgljdkjepdknnaaGreatDoorML6
import Derived.Test.YtgljdkjepdknnaaGreatDoorML15
set_option maxHeartbeats 64000000
namespace Go.Proofs.YtgljdkjepdknnaaGreatDoor
open Go.ChangeShapes Go.WideShapes Go.ChangeAt Go.RowKit
set_option maxRecDepth 100000
set_option linter.unusedSimpArgs false
theorem Sat.setQ {B w : World} {D : PH} {l : List HP} {L q : Nat} {tv rv : Value} {room : Int} (hs : Sat B D w (lkb L q tv room rv :: l)) (u : Value) : Sat B D (w.setCell ⟨L, 3, none⟩ u) (lkb L q tv room u :: l) := hs.set 3 u
theorem lv {α : Type} {f : α → List Value} {z : Nat} (hf : ∀ a, (f a).length = z) {x y : α} {u : Value} {j : Nat} (hj : j < z) (hy : f y = (f x).set j u) : ∀ (xs : List α) (k : Nat), xs[k]? = some x → (xs.flatMap f).set (k * z + j) u = (xs.set k y).flatMap f
 | [], k, h => by simp at h
 | a :: xs, 0, h => by
  simp at h
  subst h
  simp only [List.flatMap_cons, Nat.zero_mul, Nat.zero_add, Ek]
  rw [List.set_append_left _ _ (by rw [hf]; exact hj), hy]
 | a :: xs, k + 1, h => by
  simp only [List.getElem?_cons_succ] at h
  simp only [List.flatMap_cons, Ej]
  rw [show (k + 1) * z + j = (f a).length + (k * z + j) by rw [hf, Nat.succ_mul]; omega]
  rw [List.set_append_right _ _ (by omega), Nat.add_sub_cancel_left, lv hf hj hy xs k h]
theorem pA (l : List Rsn) (o : Int) (c : Clm) : (∃ k, atR l o c = some k ∧ cz (ofR o c) l = (k : Int) ∧ k < l.length) ∨ (atR l o c = none ∧ cz (ofR o c) l = -1) := by
 unfold atR cz
 cases h : l.findIdx? (ofR o c) with
 | none => exact .inr ⟨rfl, rfl⟩
 | some k =>
  obtain ⟨hlt, _⟩ := List.findIdx?_eq_some_iff_getElem.1 h
  exact .inl ⟨k, rfl, rfl, hlt⟩
theorem atF_W {w : World} {b1 b2 : Nat} {o : Int} {c : ClmE} (h1 : w.heap[b1]? = some (.cells #[.int .i64 o] 3 (0, 0))) (h2 : w.heap[b2]? = some (.cells c.cells.toArray tCl (0, 0))) (x : RsnE)
  (hx : RdCl w x.x) (hc : RdCl w c)
  : PredF 139 #[.pointer (some ⟨b1, 0, none⟩), .pointer (some ⟨b2, 0, none⟩)] w (bE x) (ofR o c.c (js x)) := by
 refine ⟨enters_of Tryz.func139 (by kernel_rfl) rfl, fun W hW => ?_⟩
 obtain ⟨W1, hW1, hk1, hbx, hb1⟩ := cm (aB hW h1) (bE x).toArray tRs
 have hk2 := hW.trans hk1 (fun _ h => h.elim)
 have uW := Eh hW1
 have vd := Eh hk1
 have vJ := Eh hbx
 obtain ⟨c0, _⟩ := aK hb1
 have yQ := Eh (az (ak (eR hk2 h2)))
 have vN := Eh (fy (hx.kept hk2) (hc.kept hk2))
 clear h1 h2 hW hW1 hk1 hk2 hbx hb1
 show Calls Tryz.prog 139 #[.agg (bE x).toArray, .pointer (some ⟨b1, 0, none⟩), .pointer (some ⟨b2, 0, none⟩)] W _
 by_cases ho : x.o = o
 ·have HO := Eh (show ofR o c.c (js x) = RC.same x.x.c c.c by unfold ofR; simp [ho])
  rw [HO.out]
  generalize RC.same x.x.c c.c = rr at *
  go_enter Tryz.func139, Tryz.ntmps139
  go_upto_region 1 with fail
  rw [← uW.out]
  clear uW HO
  generalize W.heap.size = bx at vJ ⊢
  have x0 := (ue vJ.out).1
  have vG := Eh (az (uR vJ.out))
  rw [ho] at x0
  clear ho
  go_wp2_with (first | (refine bW rfl _ _ rfl _ _ rfl _ vG.out ?_) | (refine bW rfl _ _ rfl _ _ rfl _ yQ.out ?_) | (go_at_call 74; refine vN.out.mono ?_; rintro e1 w1 ⟨rfl, hk3⟩; have vp := Eh (vd.out.trans hk3 (fun _ h => h.elim)); clear hk3 vN x0 c0 vG yQ))
  go_ret
  exact ⟨rfl, vp.out⟩
 ·have HO := Eh (show ofR o c.c (js x) = false by unfold ofR; simp [ho])
  have hne : (x.o == o) = false := by simpa using ho
  rw [HO.out]
  go_enter Tryz.func139, Tryz.ntmps139
  go_upto_region 1 with fail
  rw [← uW.out]
  clear uW HO vN yQ
  generalize W.heap.size = bx at vJ ⊢
  have x0 := (ue vJ.out).1
  clear ho
  go_wp2_with fail
  go_ret
  exact ⟨rfl, vd.out⟩
theorem at_W {B w : World} {D D' : PH} {l : List HP} {L : Nat} {ts : List (List Bool)} {room : Int} {m : LkM} (o : Int) (c : ClmE) (hD : PH.le D' D) (hc : ClOk D c) (h : Sat B D w (cd D' L ts room m :: l)) :
  Calls Tryz.prog 88 #[.pointer (some ⟨L, 0, none⟩), .int .i64 o, .agg c.cells.toArray] w fun e w' => e = .returned (.int .i64 (cz (ofR o c.c) m.why)) ∧ Kept (fun _ => False) w w' := by
 obtain ⟨q, tv, rv, rs, ht, hr, h1⟩ := ch h
 obtain ⟨W1, hW1, hk1, hb1, hb2⟩ := iO w #[.int .i64 o] c.cells.toArray 3 tCl
 have hs1 := h1.kept hk1
 have HI := Eh (kc (fun x => ofR o c.c (js x)) (hs1.own 2 rfl).rd (fun x hx => atF_W hb1 hb2 x (((hr.2 x hx).mono hD).rd hs1) (hc.rd hs1)))
 rw [se (ofR o c.c), hr.1] at HI
 have uW := Eh hW1
 have vd := Eh hk1
 obtain ⟨c0, c1, c2, c3, _⟩ := bF (hs1.blk 0 rfl)
 clear h h1 hs1 ht hr hW1 hk1 hb1 hb2
 generalize cz (ofR o c.c) m.why = k at *
 go_enter Tryz.func88, Tryz.ntmps88
 go_upto_region 1 with fail
 rw [← uW.out]
 clear uW
 generalize w.heap.size + 1 = bx2 at HI ⊢
 generalize w.heap.size = bx1 at HI ⊢
 go_wp2_with (go_at_call 138; refine HI.out.mono ?_; rintro e1 w1 ⟨rfl, hk2⟩; have vp := Eh (vd.out.trans hk2 (fun _ h => h.elim)); clear hk2 HI c0 c1 c2 c3)
 go_ret
 exact ⟨rfl, vp.out⟩
theorem infoW : (Tryz.prog.info? tRs).map (fun i => (i.zero, i.size, i.bytes)) = some (some (.agg #[.int .i64 0, .int .i64 0, .int .i64 0, .int .i64 0, .bool false, .int .i64 0, .string ⟨#[]⟩, .slice none 0 0, .int .i64 0, .int .i64 0, .bool false, .int .i64 0, .string ⟨#[]⟩, .bool false, .int .i64 0, .string ⟨#[]⟩, .slice none 0 0, .int .u8 0]), 18, 200) := by kernel_rfl
theorem nj (w : World) (n : Int) (x : ClmE) (y : Int) : (Instr.build tRs #[(0, .int .i64 n), (1, .agg x.cells.toArray), (2, .int .u8 y)]).run Tryz.prog w = .ok (.agg (bE ⟨n, x, y⟩).toArray) w := run_build w _ _ _ (by kernel_rfl)
theorem oZ {w : World} {o : Oper} {a : Act} {K : Act → Prop} (xo xc xw : Operand) (ho : o.op = .build tRs #[(0, xo), (1, xc), (2, xw)]) (n : Int) (x : ClmE) (y : Int) (h1 : a.eval xo = .int .i64 n) (h2 : a.eval xc = .agg x.cells.toArray) (h3 : a.eval xw = .int .u8 y)
  (h : K (a.put o.dst (.agg (bE ⟨n, x, y⟩).toArray))) : o.still Tryz.prog a w K := by
 have hrun := nj w n x y
 unfold Oper.still execOp
 simp only [ho, List.map_toArray, List.map_cons, List.map_nil, h1, h2, h3, Sem.run_bind, Sem.run_pure, Result.andThen_ok, hrun]
 rw [Oper.stillUpon_value]
 exact h
theorem qD {l : List Rsn} {o : Int} {c : Clm} {w : Int} {k : Nat} {r : Rsn} (h : atR l o c = some k) (hr : l[k]? = some r) : di l o c w = l.set k (orR w r) := by unfold di; rw [h]; dsimp only; rw [hr]
theorem qA {l : List Rsn} {o : Int} {c : Clm} {w : Int} (h : atR l o c = none) : di l o c w = l ++ [⟨o, c, w⟩] := by unfold di; rw [h]
theorem pT {B w : World} {D : PH} {l : List HP} {L : Nat} {ts : List (List Bool)} {room : Int} {m : LkM} (o : Int) (c : ClmE) (why : Int) (hM : m.why.length ≤ 100000) (hc : ClOk D c) (h : Sat B D w (cd D L ts room m :: l)) :
  Calls Tryz.prog 47 #[.pointer (some ⟨L, 0, none⟩), .int .i64 o, .agg c.cells.toArray, .int .u8 why] w fun e w' => e = .returned (.tuple #[]) ∧ Sat B D w' (cd D L ts room ⟨m.q, di m.why o c.c why⟩ :: l) := by
 obtain ⟨i0, hi, hz0, hz1, hz2⟩ := info_parts infoW
 have HI := Eh (And.intro hi (And.intro hz0 (And.intro hz1 hz2)))
 obtain ⟨W1, hW1, hs1⟩ := Sat.hide (h.alloc c.cells.toArray tCl)
 have uW := Eh hW1
 have HL := Eh (az (ak (hs1.blk 0 rfl)))
 have xr := Eh (at_W o c (PH.le.refl _) hc hs1.swap)
 have uX := Eh hs1
 have HC := Eh hc
 clear hi hz0 hz1 hz2 h hs1 hW1 hc
 rcases pA m.why o c.c with ⟨k, hk1, hk2, hk3⟩ | ⟨hk1, hk2⟩
 ·rw [hk2] at xr
  have HK := Eh hk1
  clear hk1 hk2
  go_enter Tryz.func47, Tryz.ntmps47
  go_upto_region 1 with fail
  rw [← uW.out]
  clear uW
  generalize w.heap.size = bx at *
  go_upto_region 2 with (first | (refine ai rfl _ _ rfl _ _ rfl _ HL.out ?_) | (go_at_call 88; refine xr.out.mono ?_; rintro e1 w1 ⟨rfl, hk⟩; have vg := Eh (uX.out.kept hk); clear hk xr HL uX))
  obtain ⟨q, tv, rv, rs, ht, hr, h3⟩ := ch vg.out.swap
  have hlr : rs.length = m.why.length := by rw [← hr.1, List.length_map]
  obtain ⟨N, hN⟩ : ∃ N, N = rs.length := ⟨_, rfl⟩
  obtain ⟨ra, rc, rfl⟩ := (h3.front 2 rfl).own_shape
  obtain ⟨x, hx⟩ : ∃ x, rs[k]? = some x := ⟨rs[k]'(by omega), List.getElem?_eq_getElem _⟩
  obtain ⟨g, og, rfl, hrng⟩ := aF kx (h3.own 2 rfl).rd hx rfl
  obtain ⟨g', hg'⟩ : ∃ g', (some ⟨g, og, none⟩ : Option Addr) = some ⟨g', 0, none⟩ := by
   rcases (h3.own 2 rfl).2.2 with ⟨h1, h2⟩ | ⟨g', c2, cur, h1, _⟩
   ·omega
   ·cases h1; exact ⟨_, rfl⟩
  cases hg'
  obtain ⟨x0, x17⟩ := whyW hrng
  rw [Nat.zero_add] at x0 x17
  obtain ⟨c0, c1, c2, c3, cf⟩ := bF (h3.blk 0 rfl)
  obtain ⟨cur, hrow, _⟩ := (h3.front 2 rfl).own_row
  have gf := frz (hrow.blk 0 rfl)
  have hkl : (k : Int) < (N : Int) := by omega
  rw [← hN] at c3
  have HT := Eh ht
  have HR := Eh hr
  have HX := Eh hx
  have yF := Eh ((h3.front 2 rfl).own_set (k * 18 + 17) (.int .u8 (bits .or .u8 x.why why)) rfl)
  have HF := Eh (lv kx (x := x) (y := ⟨x.o, x.x, bits .or .u8 x.why why⟩) (u := .int .u8 (bits .or .u8 x.why why)) (j := 17) (by decide) rfl rs k hx)
  have HN := Eh hN
  clear hr ht hx hrng h3 hrow vg hlr hN
  go_wp2_with fail
  refine bodyPost_ret (results_none rfl _ _ _) rfl ?_
  refine ⟨rfl, ?_⟩
  have hs5 := yF.out
  rw [HF.out] at hs5
  have hget : m.why[k]? = some (js x) := by rw [← HR.out.1, List.getElem?_map, HX.out]; rfl
  refine bQ (rs := rs.set k ⟨x.o, x.x, bits .or .u8 x.why why⟩) HT.out ⟨?_, ?_⟩ (q := q) (rv := .slice (some ⟨g, 0, none⟩) rs.length rc) ?_
  ·rw [qD HK.out hget, ← HR.out.1, List.map_set]
   rfl
  ·intro y hy
   rcases List.mem_or_eq_of_mem_set hy with h | h
   ·exact HR.out.2 y h
   ·subst h; exact HR.out.2 x (List.mem_of_getElem? HX.out)
  ·show Sat B D _ (_ :: _ :: aI tRs 18 (.slice (some ⟨g, 0, none⟩) rs.length rc) (rs.set k _).length _ :: l)
   rw [List.length_set]
   have h6 := (hs5.front 3 rfl).drop
   exact h6.rot
 ·rw [hk2] at xr
  have HK := Eh hk1
  clear hk1 hk2
  go_enter Tryz.func47, Tryz.ntmps47
  go_upto_region 1 with fail
  rw [← uW.out]
  clear uW
  generalize w.heap.size = bx at *
  go_upto_region 2 with (first | (refine ai rfl _ _ rfl _ _ rfl _ HL.out ?_) | (go_at_call 88; refine xr.out.mono ?_; rintro e1 w1 ⟨rfl, hk⟩; have vg := Eh (uX.out.kept hk); clear hk xr HL uX))
  obtain ⟨q, tv, rv, rs, ht, hr, h3⟩ := ch vg.out.swap
  have hlr : rs.length ≤ 100000 := by rw [← List.length_map (f := js), hr.1]; exact hM
  obtain ⟨ra, rc, rfl⟩ := (h3.front 2 rfl).own_shape
  obtain ⟨c0, c1, c2, c3, cf⟩ := bF (h3.blk 0 rfl)
  have HT := Eh ht
  have HR := Eh hr
  have HL := Eh (az (ak (h3.drew.blk 3 rfl)))
  have uY := Eh (show Sat B D w1 (lkb L q tv room (.slice ra rs.length rc) :: aI tRs 18 (.slice ra rs.length rc) rs.length (rs.flatMap bE) :: bZ D q m.q :: blk bx c.cells.toArray tCl :: l) from (h3.front 2 rfl).swap)
  generalize hN : rs.length = N at *
  have HN := Eh hN
  clear ht hr h3 vg hN
  go_upto_region 4 with fail
  refine ag [(0, false, 13), (1, false, 10), (2, false, 10), (3, false, 10), (4, false, 10), (5, false, 9), (6, false, 9), (7, false, 9), (8, false, 9), (9, true, 0), (10, true, 0), (11, false, 13), (12, false, 13), (13, true, 0)] (by kernel_rfl) (by kernel_rfl) ?_
  iterate 9 (refine af rfl rfl (fun K hK => ?_); (first | ((refine aj _ _ rfl _ _ rfl _ HL.out ?_); go_simp) | ((refine oZ _ _ _ rfl _ _ _ rfl rfl rfl ?_); go_simp) | go_simp); refine hK _ ?_; clear hK K)
  refine al rfl ?_
  refine aD rfl _ _ rfl tRs i0 _ (bE ⟨o, c, why⟩) rfl Tryz.underlying75 HI.out.1 HI.out.2.1 (HI.out.2.2.1.trans rfl) (by rw [kx]; decide) (by rw [kx]; decide) ?_
  refine wpList_nil ?_
  obtain ⟨W4, hW4, hs4⟩ := Sat.hide (uY.out.drew.alloc (bE ⟨o, c, why⟩).toArray tRs)
  rw [← hW4]
  clear hW4 uY HL c0 c1 c2 c3 cf
  generalize w1.drew.heap.size = bz at hs4 ⊢
  obtain ⟨c0, c1, c2, c3, cf⟩ := bF (hs4.blk 1 rfl)
  have vk := Eh (aS (size := 18) (n := 1) (hs4.blk 0 rfl) (by simp [kx]) (by unfold maxLen; omega))
  have vh := Eh (show Sat B D W4 (aI tRs 18 (.slice ra N rc) N (rs.flatMap bE) :: blk bz (bE ⟨o, c, why⟩).toArray tRs :: lkb L q tv room (.slice ra N rc) :: bZ D q m.q :: blk bx c.cells.toArray tCl :: l) from hs4.front 2 rfl)
  clear hs4
  refine And.intro ?_ ?_
  ·go_simp
  refine al rfl ?_
  refine au _ rfl _ _ 75 rfl tRs i0 _ 18 200 Tryz.underlying75 HI.out.1 HI.out.2.1 HI.out.2.2.1 HI.out.2.2.2 rfl _ N _ rfl vh.out _ 1 _ rfl vk.out (by simpa using oneW ⟨o, c, why⟩) (by unfold maxLen; omega) (by omega) ?_
  intro v7 w7 hs7 h17
  refine wpList_nil ?_
  clear c0 c1 c2 c3 cf vh vk
  obtain ⟨c0, c1, c2, c3, cf⟩ := bF (hs7.blk 2 rfl)
  have vn := Eh (Sat.setQ (hs7.front 2 rfl) v7)
  clear hs7
  obtain ⟨va, vc, rfl⟩ : ∃ va vc, v7 = .slice va (N + 1) vc := (vn.out.front 1 rfl).own_shape
  refine And.intro ?_ ?_
  ·go_simp
  iterate 2 (refine af rfl rfl (fun K hK => ?_); (first | ((refine aj _ _ rfl _ _ rfl _ HL.out ?_); go_simp) | ((refine oZ _ _ _ rfl _ _ _ rfl rfl rfl ?_); go_simp) | go_simp); refine hK _ ?_; clear hK K)
  refine al rfl ?_
  refine wpList_plain rfl (fun K hK => ?_)
  go_simp
  refine hK _ _ ?_
  clear hK K
  refine wpList_nil ?_
  refine And.intro ?_ ?_
  ·go_simp
  refine ar ?_
  go_wp2_with fail
  go_end0
  refine ⟨rfl, ?_⟩
  have h7 := (vn.out.front 2 rfl).drop
  refine bQ (rs := rs ++ [⟨o, c, why⟩]) HT.out ⟨?_, ?_⟩ (q := q) (rv := .slice va (N + 1) vc) ?_
  ·show _ = di m.why o c.c why
   rw [qA HK.out, List.map_append, HR.out.1]
   rfl
  ·intro x hx
   rcases List.mem_append.1 hx with hx | hx
   ·exact HR.out.2 x hx
   ·obtain rfl := List.mem_singleton.1 hx
    exact HC.out
  ·show Sat B D _ (_ :: _ :: aI tRs 18 _ (rs ++ [(⟨o, c, why⟩ : RsnE)]).length ((rs ++ [(⟨o, c, why⟩ : RsnE)]).flatMap bE) :: l)
   rw [List.length_append, HN.out, List.flatMap_append]
   have h8 := (h7.front 3 rfl).drop
   have h9 := (h8.front 2 rfl).front 1 rfl
   simpa using h9
abbrev gW (B : World) (D : PH) (l : List HP) (F : Nat) (caps : Array Value) (p : Clm → Bool) : Prop := ∀ c : ClmE, ClOk D c → PredS B D l F caps c.cells (p c.c)
theorem rR {B : World} {D : PH} {l : List HP} {b1 b2 F : Nat} {caps : Array Value} {o : Int} (p : Clm → Bool) (hent : Enters Tryz.prog F) (HF : gW B D l F caps p) (x : RsnE) (hx : ClOk D x.x)
  (i j : Nat) (hi : l[i]? = some (blk b1 #[.int .i64 o] 3)) (hj : l[j]? = some (blk b2 #[.func (.func F) #[] caps] 63)) :
  PredS B D l 92 #[.pointer (some ⟨b1, 0, none⟩), .pointer (some ⟨b2, 0, none⟩)] (bE x) (decide (x.o = o) && p x.x.c) := by
 intro W X hX
 obtain ⟨W1, hW1, hs1⟩ := Sat.hide (hX.alloc (bE x).toArray tRs)
 have HC := Eh (HF x.x hx W1 (blk W.heap.size (bE x).toArray tRs :: X) hs1)
 have hi' : (X ++ l)[X.length + i]? = some (blk b1 #[.int .i64 o] 3) := by rw [List.getElem?_append_right (by omega), Nat.add_sub_cancel_left, hi]
 have hj' : (X ++ l)[X.length + j]? = some (blk b2 #[.func (.func F) #[] caps] 63) := by rw [List.getElem?_append_right (by omega), Nat.add_sub_cancel_left, hj]
 obtain ⟨c0, _⟩ := aK (hs1.blk (X.length + i + 1) (by rw [List.getElem?_cons_succ]; exact hi'))
 obtain ⟨d0, _⟩ := aK (hs1.blk (X.length + j + 1) (by rw [List.getElem?_cons_succ]; exact hj'))
 have vd := Eh (show Kept (fun _ => False) W W1 by rw [hW1]; exact (Kept.refl _ _).alloc _)
 have vJ := Eh (hs1.blk 0 rfl)
 have uW := Eh hW1
 clear hX hs1 hW1 hi hj hi' hj' HF hx
 unfold Enters at hent
 show Calls Tryz.prog 92 #[.agg (bE x).toArray, .pointer (some ⟨b1, 0, none⟩), .pointer (some ⟨b2, 0, none⟩)] W _
 by_cases ho : x.o = o
 ·have HO := Eh (show (decide (x.o = o) && p x.x.c) = p x.x.c by simp [ho])
  rw [HO.out]
  generalize p x.x.c = rr at *
  go_enter Tryz.func92, Tryz.ntmps92
  go_upto_region 1 with fail
  rw [← uW.out]
  clear uW HO
  generalize W.heap.size = bx at vJ ⊢
  have x0 := (ue vJ.out).1
  have vG := Eh (az (uR vJ.out))
  rw [ho] at x0
  clear ho
  go_wp2_with (first | (refine bW rfl _ _ rfl _ _ rfl _ vG.out ?_) | (refine HC.out.mono ?_; rintro e1 w1 ⟨rfl, hk3⟩; have vp := Eh (vd.out.trans hk3 (fun _ h => h.elim)); clear hk3 HC x0 c0 d0 vG))
  go_ret
  exact ⟨rfl, vp.out⟩
 ·have HO := Eh (show (decide (x.o = o) && p x.x.c) = false by simp [ho])
  have hne : (x.o == o) = false := by simpa using ho
  rw [HO.out]
  go_enter Tryz.func92, Tryz.ntmps92
  go_upto_region 1 with fail
  rw [← uW.out]
  clear uW HO HC
  generalize W.heap.size = bx at vJ ⊢
  have x0 := (ue vJ.out).1
  clear ho
  go_wp2_with fail
  go_ret
  exact ⟨rfl, vd.out⟩
theorem ld {B w : World} {D : PH} {l : List HP} {L F : Nat} {caps : Array Value} {ts : List (List Bool)} {room : Int} {m : LkM} (o : Int) (p : Clm → Bool) (hent : Enters Tryz.prog F) (HF : gW B D l F caps p) (h : Sat B D w (cd D L ts room m :: l)) :
  Calls Tryz.prog 52 #[.pointer (some ⟨L, 0, none⟩), .int .i64 o, .func (.func F) #[] caps] w fun e w' => e = .returned (.tuple #[]) ∧ Sat B D w' (cd D L ts room ⟨m.q, bI m.why o p⟩ :: l) := by
 obtain ⟨q, tv, rv, rs, ht, hr, h1⟩ := ch h
 obtain ⟨W1, hW1, hs1⟩ := cG h1 #[.int .i64 o] #[.func (.func F) #[] caps] 3 63
 have uW := Eh hW1
 obtain ⟨pf, hpf⟩ : ∃ pf : RsnE → Bool, pf = fun x => decide (x.o = o) && p x.x.c := ⟨_, rfl⟩
 have DI := Eh hpf
 have wO := Eh (jg (F := 92) (caps := #[.pointer (some ⟨w.heap.size, 0, none⟩), .pointer (some ⟨w.heap.size + 1, 0, none⟩)]) pf rfl (enters_of Tryz.func92 (by kernel_rfl) rfl) (hs1.front 4 rfl) (fun x hx => by rw [hpf]; exact rR (b1 := w.heap.size) (b2 := w.heap.size + 1) p hent (fun c hc => (HF c hc).more [_, _, _, _]) x (hr.2 x hx) 0 1 rfl rfl))
 obtain ⟨c0, c1, c2, c3, cf⟩ := bF (hs1.blk 2 rfl)
 have HT := Eh ht
 have HR := Eh hr
 clear h h1 hs1 hW1 ht hr HF hent hpf
 go_enter Tryz.func52, Tryz.ntmps52
 go_upto_region 1 with fail
 rw [← uW.out]
 clear uW
 generalize w.heap.size + 1 = bx2 at wO ⊢
 generalize w.heap.size = bx1 at wO ⊢
 go_wp2_with (go_at_call 89; refine wO.out.mono ?_; rintro e1 w1 ⟨v1, rfl, hs2⟩; obtain ⟨va, vc, rfl⟩ := hs2.own_shape; clear c0 c1 c2 c3 cf wO; obtain ⟨c0, c1, c2, c3, cf⟩ := bF (hs2.blk 3 rfl); have vg := Eh (Sat.setQ (hs2.front 3 rfl) (.slice va (rs.filter (fun x => !pf x)).length vc)); clear hs2)
 go_end0
 refine ⟨rfl, ?_⟩
 refine bQ (rs := rs.filter (fun x => !pf x)) HT.out ⟨?_, fun x hx => HR.out.2 x (List.mem_filter.1 hx).1⟩ (q := q) (rv := .slice va (rs.filter (fun x => !pf x)).length vc) ?_
 ·show _ = bI m.why o p
  unfold bI
  rw [← HR.out.1, List.filter_map, DI.out]
  rfl
 ·have h5 := ((vg.out.front 2 rfl).drop.front 2 rfl).drop
  exact (h5.front 2 rfl).front 1 rfl
theorem hasF_W {w : World} {b : Nat} {c : ClmE} (h2 : w.heap[b]? = some (.cells c.cells.toArray tCl (0, 0))) (hc : RdCl w c) (x : ClmE) (hx : RdCl w x) :
  PredF 84 #[.pointer (some ⟨b, 0, none⟩)] w x.cells (RC.same x.c c.c) := by
 refine ⟨enters_of Tryz.func84 (by kernel_rfl) rfl, fun W hW => ?_⟩
 obtain ⟨W1, hW1, hk1, hbx, hb1⟩ := cm (aB hW h2) x.cells.toArray tCl
 have hk2 := hW.trans hk1 (fun _ h => h.elim)
 have uW := Eh hW1
 have vd := Eh hk1
 have vG := Eh (az (ak hbx))
 have vV := Eh (az (ak hb1))
 have vN := Eh (fy (hx.kept hk2) (hc.kept hk2))
 clear h2 hW hW1 hk1 hk2 hbx hb1
 show Calls Tryz.prog 84 #[.agg x.cells.toArray, .pointer (some ⟨b, 0, none⟩)] W _
 generalize RC.same x.c c.c = rr at *
 go_enter Tryz.func84, Tryz.ntmps84
 go_upto_region 1 with fail
 rw [← uW.out]
 clear uW
 generalize W.heap.size = bx at vG ⊢
 go_wp2_with (first | (refine ai rfl _ _ rfl _ _ rfl _ vG.out ?_) | (refine ai rfl _ _ rfl _ _ rfl _ vV.out ?_) | (go_at_call 74; refine vN.out.mono ?_; rintro e1 w1 ⟨rfl, hk3⟩; have vp := Eh (vd.out.trans hk3 (fun _ h => h.elim)); clear hk3 vN vG vV))
 go_ret
 exact ⟨rfl, vp.out⟩
theorem has_W {B w : World} {D : PH} {l : List HP} {L : Nat} {ts : List (List Bool)} {room : Int} {m : LkM} (o : Int) (c : ClmE) (hM : m.q.held.length ≤ 100000) (hc : ClOk D c) (h : Sat B D w (cd D L ts room m :: l)) :
  Calls Tryz.prog 43 #[.pointer (some ⟨L, 0, none⟩), .int .i64 o, .agg c.cells.toArray] w fun e w' => e = .returned (.bool (fN m o c.c)) ∧ Sat B D w' (cd D L ts room m :: l) := by
 obtain ⟨q, tv, rv, rs, ht, hr, h1⟩ := ch h
 obtain ⟨W1, hW1, hs1⟩ := Sat.hide (h1.alloc c.cells.toArray tCl)
 have uW := Eh hW1
 have wH := Eh (kB o hM (hs1.front 2 rfl))
 obtain ⟨c0, c1, c2, c3, cf⟩ := bF (hs1.blk 1 rfl)
 have HT := Eh ht
 have HR := Eh hr
 have HC := Eh hc
 clear h h1 hs1 hW1 ht hr hc
 go_enter Tryz.func43, Tryz.ntmps43
 go_upto_region 1 with fail
 rw [← uW.out]
 clear uW
 generalize w.heap.size = bx at wH ⊢
 go_wp2_with (first
  | (go_at_call 49; refine wH.out.mono ?_; rintro e1 w1 ⟨v1, rfl, hs2⟩; obtain ⟨cs, hcs, hok, hs3⟩ := dE hs2; have wS := Eh (gO (fun x => RC.same x.c c.c) (hs3.own 0 rfl).rd (fun x hx => hasF_W (hs3.blk 2 rfl) (HC.out.rd hs3) x ((hok x hx).rd hs3))); have uY := Eh hs3; have wE := Eh hcs; clear hs2 hs3 hok hcs wH c0 c1 c2 c3 cf)
  | (go_at_call 83; refine wS.out.mono ?_; rintro e2 w2 ⟨rfl, hk2⟩; have vh := Eh (uY.out.kept hk2); clear hk2 wS uY))
 go_ret
 refine ⟨?_, ?_⟩
 ·unfold fN
  rw [← wE.out, List.any_map]
  rfl
 ·have h5 := vh.out.drop
  have h6 := (h5.front 1 rfl).drop
  exact bQ HT.out HR.out (h6.front 1 rfl)
theorem bK {B w : World} {D D' D0 : PH} {l : List HP} {L : Nat} {ts : List (List Bool)} {room : Int} {m : LkM} (h : Sat B D0 w (cd D L ts room m :: l)) (le : PH.le D D') : Sat B D0 w (cd D' L ts room m :: l) := by
 obtain ⟨q, tv, rv, rs, ht, hr, h1⟩ := ch h
 exact bQ (ht.mono le) (hr.mono le) ((iS h1.swap le).swap)
theorem uT {B : World} {D : PH} {l : List HP} {b F : Nat} {caps : Array Value} (p : Clm → Bool) (hent : Enters Tryz.prog F) (HF : gW B D l F caps p) (x : ClmE) (hx : ClOk D x)
  (i : Nat) (hi : l[i]? = some (blk b #[.func (.func F) #[] caps] 63)) :
  PredS B D l 94 #[.pointer (some ⟨b, 0, none⟩)] x.cells (!p x.c) := by
 intro W X hX
 obtain ⟨W1, hW1, hs1⟩ := Sat.hide (hX.alloc x.cells.toArray tCl)
 have HC := Eh (HF x hx W1 (blk W.heap.size x.cells.toArray tCl :: X) hs1)
 have hi' : (X ++ l)[X.length + i]? = some (blk b #[.func (.func F) #[] caps] 63) := by rw [List.getElem?_append_right (by omega), Nat.add_sub_cancel_left, hi]
 obtain ⟨c0, _⟩ := aK (hs1.blk (X.length + i + 1) (by rw [List.getElem?_cons_succ]; exact hi'))
 have vd := Eh (show Kept (fun _ => False) W W1 by rw [hW1]; exact (Kept.refl _ _).alloc _)
 have vG := Eh (az (ak (hs1.blk 0 rfl)))
 have uW := Eh hW1
 clear hX hs1 hW1 hi hi' HF hx
 unfold Enters at hent
 show Calls Tryz.prog 94 #[.agg x.cells.toArray, .pointer (some ⟨b, 0, none⟩)] W _
 generalize p x.c = rr at *
 go_enter Tryz.func94, Tryz.ntmps94
 go_upto_region 1 with fail
 rw [← uW.out]
 clear uW
 generalize W.heap.size = bx at vG ⊢
 go_wp2_with (first | (refine ai rfl _ _ rfl _ _ rfl _ vG.out ?_) | (refine HC.out.mono ?_; rintro e1 w1 ⟨rfl, hk3⟩; have vp := Eh (vd.out.trans hk3 (fun _ h => h.elim)); clear hk3 HC c0 vG))
 go_ret
 exact ⟨rfl, vp.out⟩
theorem rf {B w : World} {D : PH} {l : List HP} {L F : Nat} {caps : Array Value} {ts : List (List Bool)} {room : Int} {m : LkM} (o : Int) (p : Clm → Bool) (hD : EnvD D) (hM : m.q.held.length + m.q.waits.length ≤ 1000) (hent : Enters Tryz.prog F) (HF : gW B D (cd D L ts room m :: l) F caps p) (h : Sat B D w (cd D L ts room m :: l)) :
  Calls Tryz.prog 53 #[.pointer (some ⟨L, 0, none⟩), .int .i64 o, .func (.func F) #[] caps] w fun e w' => ∃ v D', e = .returned v ∧ PH.le D D' ∧ Sat B D' w' (cd D' L ts room (my m o p).1 :: cj v (my m o p).2 :: l) := by
 obtain ⟨W1, hW1, hs1⟩ := Sat.hide (h.alloc #[.func (.func F) #[] caps] 63)
 obtain ⟨q, tv, rv, rs, ht, hr, h1⟩ := ch hs1.swap
 have uW := Eh hW1
 have wH := Eh (kB o (by omega) (h1.front 1 rfl))
 obtain ⟨c0, c1, c2, c3, cf⟩ := bF (h1.blk 0 rfl)
 have HT := Eh ht
 have HR := Eh hr
 have HF' := Eh HF
 have HD := Eh hD
 clear h h1 hs1 hW1 ht hr HF hD
 have hent' := hent
 go_enter Tryz.func53, Tryz.ntmps53
 go_upto_region 1 with fail
 rw [← uW.out]
 clear uW
 generalize w.heap.size = bx at wH ⊢
 go_upto_region 2 with (first
  | (go_at_call 49; refine wH.out.mono ?_; rintro e1 w1 ⟨v1, rfl, hs2⟩; obtain ⟨cs, hcs, hok, hs3⟩ := dE hs2; have hs4 : Sat B D w1 (aI tCl 16 v1 cs.length (cs.flatMap ClmE.cells) :: blk bx #[.func (.func F) #[] caps] 63 :: cd D L ts room m :: l) := (bQ HT.out HR.out (((hs3.front 3 rfl).front 2 rfl).front 3 rfl)).rot; have wO := Eh (l4 (F := 94) (caps := #[.pointer (some ⟨bx, 0, none⟩)]) (fun x => !p x.c) rfl (enters_of Tryz.func94 (by kernel_rfl) rfl) hs4 (fun x hx => uT (b := bx) p hent (fun c hc => (HF'.out c hc).more [_]) x (hok x hx) 0 rfl)); have wE := Eh hcs; have vP := Eh hok; clear hs2 hs3 hs4 hok hcs wH c0 c1 c2 c3 cf)
  | (go_at_call 93; refine wO.out.mono ?_; rintro e2 w2 ⟨v2, rfl, hs5⟩; have uZ := Eh hs5; clear hs5 wO))
 clear hent hent' HF'
 obtain ⟨D1, hle, hrd, hs6⟩ := uZ.out.own_give
 obtain ⟨q, tv, rv, rs, ht, hr, h7⟩ := ch (bK hs6.drop hle)
 obtain ⟨c0, c1, c2, c3, cf⟩ := bF (h7.blk 0 rfl)
 have hmap : (cs.filter (fun x => !(!p x.c))).map ClmE.c = (aN m.q o).filter p := by
  rw [← wE.out, List.filter_map]
  congr 1
  exact List.filter_congr (fun x _ => by simp)
 have wZ := Eh (Drop_C o v2 (cs.filter (fun x => !(!p x.c))) hrd (fun c hc => (vP.out c (List.mem_filter.1 hc).1).mono hle) (HD.out.mono hle) hM h7.swap)
 rw [hmap] at wZ
 have HT := Eh ht
 have HR := Eh hr
 have vz := Eh hle
 clear hle hrd hs6 h7 hmap ht hr uZ vP wE
 go_wp2_with (go_at_call 95; refine wZ.out.mono ?_; rintro e3 w3 ⟨u, rfl, hs8⟩; have vw := Eh hs8; clear hs8 wZ)
 go_ret
 refine ⟨_, D1, rfl, vz.out, bQ HT.out HR.out (m := (my m o p).1) (q := q) (rv := rv) ?_⟩
 exact (((vw.out.front 1 rfl).front 3 rfl).front 2 rfl).front 3 rfl
def iI (o w : Int) (x : RsnE) : RsnE := if x.o = o then ⟨x.o, x.x, bits .andNot .u8 x.why w⟩ else x
def dP (rs : List RsnE) (o w : Int) (j : Nat) : List RsnE := (rs.take j).map (iI o w) ++ rs.drop j
theorem iZ (rs : List RsnE) (o w : Int) (j : Nat) : (dP rs o w j).length = rs.length := by
 unfold dP
 rw [List.length_append, List.length_map, ← List.length_append, List.take_append_drop]
theorem lk {rs : List RsnE} {o w : Int} {j : Nat} {x : RsnE} (hx : rs[j]? = some x) : (dP rs o w j)[j]? = some x := by
 have hlt := (List.getElem?_eq_some_iff.1 hx).1
 unfold dP
 rw [List.getElem?_append_right (by rw [List.length_map, List.length_take]; omega), List.length_map, List.length_take, Nat.min_eq_left (by omega), Nat.sub_self, List.getElem?_drop, Nat.add_zero, hx]
theorem kO {rs : List RsnE} {o w : Int} {j : Nat} {x : RsnE} (hx : rs[j]? = some x) : (dP rs o w j).set j (iI o w x) = dP rs o w (j + 1) := by
 obtain ⟨hlt, rfl⟩ := List.getElem?_eq_some_iff.1 hx
 have hj : ((rs.take j).map (iI o w)).length = j := by rw [List.length_map, List.length_take]; omega
 unfold dP
 rw [List.set_append_right _ _ (by omega), hj, Nat.sub_self, List.drop_eq_getElem_cons hlt, Ek, List.take_add_one, List.getElem?_eq_getElem hlt, List.map_append]
 simp only [Option.toList_some, List.map_cons, List.map_nil, List.append_assoc, List.cons_append, List.nil_append]
theorem sB {rs : List RsnE} {o w : Int} {j : Nat} {x : RsnE} (hx : rs[j]? = some x) (h : ¬ x.o = o) : dP rs o w j = dP rs o w (j + 1) := by
 rw [← kO hx]
 have h1 : iI o w x = x := by unfold iI; rw [if_neg h]
 rw [h1]
 refine List.ext_getElem? (fun i => ?_)
 rw [List.getElem?_set]
 split
 ·rename_i hi
  subst hi
  rw [lk hx]
  split
  ·rfl
  ·rename_i hl
   rw [iZ] at hl
   exact absurd (List.getElem?_eq_some_iff.1 hx).1 hl
 ·rfl
theorem so {D : PH} {rs : List RsnE} {o w : Int} {j : Nat} (h : ∀ x ∈ rs, OkW D x) : ∀ x ∈ dP rs o w j, OkW D x := by
 intro x hx
 unfold dP at hx
 rcases List.mem_append.1 hx with hx | hx
 ·obtain ⟨y, hy, rfl⟩ := List.mem_map.1 hx
  have := h y (List.mem_of_mem_take hy)
  unfold iI
  split
  ·exact this
  ·exact this
 ·exact h x (List.mem_of_mem_drop hx)
theorem qE {rs : List RsnE} {L : List Rsn} {o w : Int} (h : rs.map js = L) : (dP rs o w rs.length).map js = L.map (fB o w) := by
 unfold dP
 rw [List.take_length, List.drop_length, List.append_nil, ← h, List.map_map, List.map_map]
 refine List.map_congr_left (fun x _ => ?_)
 show js (iI o w x) = fB o w (js x)
 unfold iI fB
 by_cases hx : x.o = o
 ·rw [if_pos hx, if_pos hx]
 ·rw [if_neg hx, if_neg hx]
theorem overF_W {B : World} {D : PH} {l : List HP} (x : RsnE) : PredS B D l 90 #[] (bE x) (decide (x.why = 0)) := by
 intro W X hX
 obtain ⟨W1, hW1, hs1⟩ := Sat.hide (hX.alloc (bE x).toArray tRs)
 have vd := Eh (show Kept (fun _ => False) W W1 by rw [hW1]; exact (Kept.refl _ _).alloc _)
 have vJ := Eh (hs1.blk 0 rfl)
 have uW := Eh hW1
 clear hX hs1 hW1
 show Calls Tryz.prog 90 #[.agg (bE x).toArray] W _
 go_enter Tryz.func90, Tryz.ntmps90
 go_upto_region 1 with fail
 rw [← uW.out]
 clear uW
 generalize W.heap.size = bx at vJ ⊢
 have x17 := (ue vJ.out).2
 go_wp2_with fail
 go_ret
 exact ⟨by by_cases hw : x.why = 0 <;> simp [hw], vd.out⟩
theorem ul {B : World} {D : PH} {l : List HP} {b1 b2 L : Nat} {ts : List (List Bool)} {room : Int} {m : LkM} {o : Int} (i j : Nat) (hi : l[i]? = some (blk b1 #[.pointer (some ⟨L, 0, none⟩)] 23)) (hj : l[j]? = some (blk b2 #[.int .i64 o] 3)) :
  gW B D (cd D L ts room m :: l) 91 #[.pointer (some ⟨b1, 0, none⟩), .pointer (some ⟨b2, 0, none⟩)] (fun c => (atR m.why o c).isNone) := by
 intro x hx W X hX
 obtain ⟨W1, hW1, hs1⟩ := Sat.hide (hX.alloc x.cells.toArray tCl)
 have hi' : (X ++ (cd D L ts room m :: l))[X.length + (i + 1)]? = some (blk b1 #[.pointer (some ⟨L, 0, none⟩)] 23) := by rw [List.getElem?_append_right (by omega), Nat.add_sub_cancel_left, List.getElem?_cons_succ, hi]
 have hj' : (X ++ (cd D L ts room m :: l))[X.length + (j + 1)]? = some (blk b2 #[.int .i64 o] 3) := by rw [List.getElem?_append_right (by omega), Nat.add_sub_cancel_left, List.getElem?_cons_succ, hj]
 have hk' : (X ++ (cd D L ts room m :: l))[X.length]? = some (cd D L ts room m) := by rw [List.getElem?_append_right (by omega), Nat.sub_self]; rfl
 obtain ⟨c0, _⟩ := aK (hs1.blk (X.length + (i + 1) + 1) (by rw [List.getElem?_cons_succ]; exact hi'))
 obtain ⟨d0, _⟩ := aK (hs1.blk (X.length + (j + 1) + 1) (by rw [List.getElem?_cons_succ]; exact hj'))
 have xr := Eh (at_W o x (PH.le.refl _) hx (hs1.front (X.length + 1) (by rw [List.getElem?_cons_succ]; exact hk')))
 have vd := Eh (show Kept (fun _ => False) W W1 by rw [hW1]; exact (Kept.refl _ _).alloc _)
 have vG := Eh (az (ak (hs1.blk 0 rfl)))
 have uW := Eh hW1
 clear hX hs1 hW1 hi hj hi' hj' hk' hx
 show Calls Tryz.prog 91 #[.agg x.cells.toArray, .pointer (some ⟨b1, 0, none⟩), .pointer (some ⟨b2, 0, none⟩)] W fun e W' => e = .returned (.bool (atR m.why o x.c).isNone) ∧ Kept (fun _ => False) W W'
 rcases pA m.why o x.c with ⟨k, hk1, hk2, hk3⟩ | ⟨hk1, hk2⟩
 ·rw [hk2] at xr
  have HK := Eh hk1
  clear hk1 hk2 hk3
  rw [HK.out]
  go_enter Tryz.func91, Tryz.ntmps91
  go_upto_region 1 with fail
  rw [← uW.out]
  clear uW
  generalize W.heap.size = bx at vG ⊢
  go_wp2_with (first | (refine ai rfl _ _ rfl _ _ rfl _ vG.out ?_) | (go_at_call 88; refine xr.out.mono ?_; rintro e1 w1 ⟨rfl, hk3⟩; have vp := Eh (vd.out.trans hk3 (fun _ h => h.elim)); clear hk3 xr c0 d0 vG))
  go_ret
  exact ⟨by simp, vp.out⟩
 ·rw [hk2] at xr
  have HK := Eh hk1
  clear hk1 hk2
  rw [HK.out]
  go_enter Tryz.func91, Tryz.ntmps91
  go_upto_region 1 with fail
  rw [← uW.out]
  clear uW
  generalize W.heap.size = bx at vG ⊢
  go_wp2_with (first | (refine ai rfl _ _ rfl _ _ rfl _ vG.out ?_) | (go_at_call 88; refine xr.out.mono ?_; rintro e1 w1 ⟨rfl, hk3⟩; have vp := Eh (vd.out.trans hk3 (fun _ h => h.elim)); clear hk3 xr c0 d0 vG))
  go_ret
  exact ⟨by simp, vp.out⟩
theorem tO {B w : World} {D : PH} {l : List HP} {L : Nat} {ts : List (List Bool)} {room : Int} {m : LkM} (o why : Int) (hD : EnvD D) (hM : m.q.held.length + m.q.waits.length ≤ 1000) (hW : m.why.length ≤ 100000) (h : Sat B D w (cd D L ts room m :: l)) :
  Calls Tryz.prog 48 #[.pointer (some ⟨L, 0, none⟩), .int .i64 o, .int .u8 why] w fun e w' => ∃ v D', e = .returned v ∧ PH.le D D' ∧ Sat B D' w' (cd D' L ts room (cY m o why).1 :: cj v (cY m o why).2 :: l) := by
 obtain ⟨q, tv, rv, rs, ht, hr, h1⟩ := ch h
 obtain ⟨W1, hW1, hs1⟩ := cG h1 #[.pointer (some ⟨L, 0, none⟩)] #[.int .i64 o] 23 3
 obtain ⟨ra, rc, rfl⟩ := (hs1.front 4 rfl).own_shape
 have hlr : rs.length ≤ 100000 := by rw [← List.length_map (f := js), hr.1]; exact hW
 obtain ⟨N, hN⟩ : ∃ N, N = rs.length := ⟨_, rfl⟩
 have hs1' : Sat B D W1 (aI tRs 18 (.slice ra N rc) N ((dP rs o why 0).flatMap bE) :: blk w.heap.size #[.pointer (some ⟨L, 0, none⟩)] 23 :: blk (w.heap.size + 1) #[.int .i64 o] 3 :: lkb L q tv room (.slice ra N rc) :: bZ D q m.q :: l) := by rw [hN]; exact hs1.front 4 rfl
 have uW := Eh hW1
 have HN := Eh hN.symm
 have hNM : N ≤ 100000 := by omega
 have HT := Eh ht
 have HR := Eh hr
 have HD := Eh hD
 have uX := Eh hs1'
 clear h h1 hs1 hs1' hW1 ht hr hD hN hlr hW
 go_enter Tryz.func48, Tryz.ntmps48
 go_upto_region 1 with fail
 rw [← uW.out]
 clear uW
 generalize w.heap.size + 1 = b2 at uX ⊢
 generalize w.heap.size = b1 at uX ⊢
 obtain ⟨d0, _⟩ := aK (uX.out.blk 1 rfl)
 obtain ⟨c0, c1, c2, c3, cf⟩ := bF (uX.out.blk 3 rfl)
 go_wp2_with fail
 go_loopw [13] (fun ii wr2 => ∃ (j : Nat), ii = .int .i64 j ∧ j ≤ N ∧ Sat B D wr2 (aI tRs 18 (.slice ra N rc) N ((dP rs o why j).flatMap bE) :: blk b1 #[.pointer (some ⟨L, 0, none⟩)] 23 :: blk b2 #[.int .i64 o] 3 :: lkb L q tv room (.slice ra N rc) :: bZ D q m.q :: l)) (fun ii _ => N - (intOf ii).toNat)
 case atStart => exact ⟨0, rfl, by omega, uX.out⟩
 case round =>
  obtain ⟨j, rfl, hj, hs2⟩ := hrel
  have vg := Eh hs2
  clear hs2 uX c0 c1 c2 c3 cf d0
  by_cases hlt : j < N
  ·have hii : (j : Int) < (N : Int) := by omega
   obtain ⟨x, hx⟩ : ∃ x, rs[j]? = some x := ⟨rs[j]'(by rw [HN.out]; exact hlt), List.getElem?_eq_getElem _⟩
   have hxo := lk (o := o) (w := why) hx
   obtain ⟨g, og, rfl, hrng⟩ := aF kx (vg.out.drew.own 0 rfl).rd hxo (by rw [iZ]; exact HN.out)
   obtain ⟨g', hg'⟩ : ∃ g', (some ⟨g, og, none⟩ : Option Addr) = some ⟨g', 0, none⟩ := by
    rcases (vg.out.own 0 rfl).2.2 with ⟨h1, h2⟩ | ⟨g', c2, cur, h1, _⟩
    ·omega
    ·cases h1; exact ⟨_, rfl⟩
   cases hg'
   obtain ⟨x0, x17⟩ := whyW hrng
   rw [Nat.zero_add] at x0 x17
   obtain ⟨d0, _⟩ := aK (vg.out.drew.blk 1 rfl)
   obtain ⟨e0, _⟩ := aK (vg.out.drew.blk 2 rfl)
   obtain ⟨c0, c1, c2, c3, cf⟩ := bF (vg.out.drew.blk 3 rfl)
   by_cases ho : x.o = o
   ·have Cv := Eh (kO (o := o) (w := why) hx)
    obtain ⟨cur, hrow, _⟩ := vg.out.drew.own_row
    have gf := frz (hrow.blk 0 rfl)
    have yF := Eh (vg.out.drew.own_set (j * 18 + 17) (.int .u8 (bits .andNot .u8 x.why why)) rfl)
    have HF := Eh (lv kx (x := x) (y := ⟨x.o, x.x, bits .andNot .u8 x.why why⟩) (u := .int .u8 (bits .andNot .u8 x.why why)) (j := 17) (by decide) rfl _ j hxo)
    have vz := Eh (show iI o why x = ⟨x.o, x.x, bits .andNot .u8 x.why why⟩ by unfold iI; rw [if_pos ho])
    rw [ho] at x0
    clear hx hxo hrng ho hrow vg
    go_upto_region 4 with fail
    refine ag [(0, false, 999), (1, false, 999), (2, false, 999), (3, false, 999), (4, false, 999), (5, false, 999), (6, false, 999), (7, false, 999), (8, false, 999), (9, false, 999)] (by kernel_rfl) (by kernel_rfl) ?_
    iterate 10 (refine af rfl rfl (fun K hK => ?_); go_simp; refine hK _ ?_; clear hK K)
    refine ar ?_
    go_wp2_with fail
    go_roundw
    case rel =>
     refine ⟨j + 1, by go_num, by omega, ?_⟩
     have h5 := yF.out
     rw [HF.out, ← vz.out, Cv.out] at h5
     exact h5
    case measure => simp [intOf]; omega
   ·have vT := Eh (sB (o := o) (w := why) hx ho)
    have hne : (x.o == o) = false := by simpa using ho
    have uY := Eh vg.out.drew
    clear hx hxo hrng ho vg
    go_upto_region 4 with fail
    refine ag [(0, false, 999), (1, false, 999), (2, false, 999), (3, false, 999), (4, false, 999), (5, false, 999), (6, false, 999), (7, false, 999), (8, false, 999), (9, false, 999)] (by kernel_rfl) (by kernel_rfl) ?_
    iterate 10 (refine af rfl rfl (fun K hK => ?_); go_simp; refine hK _ ?_; clear hK K)
    refine ar ?_
    go_wp2_with fail
    go_roundw
    case rel => exact ⟨j + 1, by go_num, by omega, by rw [← vT.out]; exact uY.out⟩
    case measure => simp [intOf]; omega
  ·have hii : ¬ ((j : Int) < (N : Int)) := by omega
   obtain rfl : j = N := by omega
   obtain ⟨d0, _⟩ := aK (vg.out.drew.blk 1 rfl)
   obtain ⟨c0, c1, c2, c3, cf⟩ := bF (vg.out.drew.blk 3 rfl)
   obtain ⟨rs2, hrs2⟩ : ∃ rs2, rs2 = dP rs o why j := ⟨_, rfl⟩
   have BF := Eh hrs2
   rw [← hrs2] at vg
   have hl2 : rs2.length = j := by rw [hrs2, iZ]; exact HN.out
   have vV := Eh hl2
   have wO := Eh (jg (F := 90) (caps := #[]) (fun x => decide (x.why = 0)) hl2 (enters_of Tryz.func90 (by kernel_rfl) rfl) vg.out.drew (fun x _ => overF_W x))
   clear hrs2 hl2 vg
   go_upto_region 7 with fail
   refine ag [(0, false, 8), (1, false, 5), (2, false, 5), (3, false, 5), (4, false, 5), (5, true, 0), (6, false, 8), (7, false, 8), (8, true, 0)] (by kernel_rfl) (by kernel_rfl) ?_
   iterate 5 (refine af rfl rfl (fun K hK => ?_); go_simp; refine hK _ ?_; clear hK K)
   refine al rfl ?_
   refine aw rfl (fun K hK => ?_)
   go_simp
   refine wO.out.mono ?_
   rintro e3 w3 ⟨v3, rfl, hs3⟩
   obtain ⟨va, vc, rfl⟩ := hs3.own_shape
   clear d0 c0 c1 c2 c3 cf wO
   obtain ⟨d0, _⟩ := aK (hs3.blk 1 rfl)
   obtain ⟨c0, c1, c2, c3, cf⟩ := bF (hs3.blk 3 rfl)
   have uY := Eh (Sat.setQ (hs3.front 3 rfl) (.slice va (rs2.filter (fun x => !decide (x.why = 0))).length vc))
   clear hs3
   refine hK _ _ ?_
   clear hK K
   refine wpList_nil ?_
   refine And.intro ?_ ?_
   ·go_simp
   iterate 2 (refine af rfl rfl (fun K hK => ?_); go_simp; refine hK _ ?_; clear hK K)
   refine al rfl ?_
   refine wpList_plain rfl (fun K hK => ?_)
   go_simp
   refine hK _ _ ?_
   clear hK K
   refine wpList_nil ?_
   refine And.intro ?_ ?_
   ·go_simp
   refine ar ?_
   obtain ⟨W4, hW4, hs4⟩ := Sat.hide uY.out
   rw [← hW4]
   clear hW4 uY d0 c0 c1 c2 c3 cf
   have hs5 : Sat B D W4 (cd D L ts room ⟨m.q, dH m.why o why⟩ :: blk b1 #[.pointer (some ⟨L, 0, none⟩)] 23 :: blk b2 #[.int .i64 o] 3 :: l) := by
    refine bQ (rs := rs2.filter (fun x => !decide (x.why = 0))) HT.out ⟨?_, ?_⟩ (q := q) (rv := .slice va (rs2.filter (fun x => !decide (x.why = 0))).length vc) ?_
    ·show _ = dH m.why o why
     unfold dH
     rw [BF.out, ← qE HR.out.1, HN.out, List.filter_map]
     rfl
    ·intro x hx
     have h6 := (List.mem_filter.1 hx).1
     rw [BF.out] at h6
     exact so HR.out.2 x h6
    ·exact (hs4.front 4 rfl).front 1 rfl
   obtain ⟨d0, _⟩ := aK (hs5.blk 1 rfl)
   obtain ⟨e0, _⟩ := aK (hs5.blk 2 rfl)
   have wZ := Eh (rf (m := ⟨m.q, dH m.why o why⟩) o (fun c => (atR (dH m.why o why) o c).isNone) HD.out hM (enters_of Tryz.func91 (by kernel_rfl) rfl) (ul (b1 := b1) (b2 := b2) 0 1 rfl rfl) hs5)
   clear hs4 hs5
   go_wp2_with (go_at_call 53; refine wZ.out.mono ?_; rintro e6 w6 ⟨v6, D6, rfl, hle6, hs6⟩; have vi := Eh hs6; have vF := Eh hle6; clear hs6 hle6 wZ)
   go_ret
   exact ⟨_, D6, rfl, vF.out, vi.out.rm2.rm2⟩
theorem i5 {w : World} (dur hand : Int) : Calls Tryz.prog 41 #[.int .i64 dur, .int .i64 hand] w fun e w' => e = .returned (.int .u8 (cu dur hand)) ∧ w' = w := by
 by_cases h1 : dur = 1
 ·subst h1
  go_enter Tryz.func41, Tryz.ntmps41
  go_wp2_with fail
  go_ret
  exact ⟨rfl, rfl⟩
 by_cases h3 : dur = 3
 ·subst h3
  go_enter Tryz.func41, Tryz.ntmps41
  go_wp2_with fail
  go_ret
  exact ⟨rfl, rfl⟩
 have e1 : (dur == 1) = false := by simpa using h1
 have e3 : (dur == 3) = false := by simpa using h3
 by_cases h2 : dur = 2
 ·subst h2
  by_cases ha : hand = 1
  ·subst ha
   clear h1 h3 e1 e3
   go_enter Tryz.func41, Tryz.ntmps41
   go_wp2_with fail
   go_ret
   exact ⟨rfl, rfl⟩
  by_cases hb : hand = 2
  ·subst hb
   clear h1 h3 e1 e3 ha
   go_enter Tryz.func41, Tryz.ntmps41
   go_wp2_with fail
   go_ret
   exact ⟨rfl, rfl⟩
  have HB := Eh (show cu 2 hand = 0 by unfold cu; rw [if_neg (by decide), if_neg (by decide), if_neg (by omega)])
  rw [HB.out]
  clear h1 h3 e1 e3
  by_cases hl : 1 ≤ hand
  ·have hu : ¬ hand ≤ 2 := by omega
   clear ha hb
   go_enter Tryz.func41, Tryz.ntmps41
   go_wp2_with fail
   go_ret
   exact ⟨rfl, rfl⟩
  ·clear ha hb
   go_enter Tryz.func41, Tryz.ntmps41
   go_wp2_with fail
   go_ret
   exact ⟨rfl, rfl⟩
 have e2 : (dur == 2) = false := by simpa using h2
 have HB := Eh (show cu dur hand = 0 by unfold cu; rw [if_neg h1, if_neg h3, if_neg (fun h => h2 h.1)])
 rw [HB.out]
 go_enter Tryz.func41, Tryz.ntmps41
 go_wp2_with fail
 go_ret
 exact ⟨rfl, rfl⟩
theorem bC {P : Program} {ops : Array Oper} {i : Nat} {x : Pend} {l : List Pend} {w : World} (h1 : x.ok P ops w) (h2 : dF P ops i l w) : dF P ops i (x :: l) w := by
 unfold dF
 split
 ·exact h2
 ·exact ⟨h1, h2⟩
theorem ip {P : Program} {ops : Array Oper} {x : Pend} {w : World} (ty : TypeId) (y : Operand) (ho : x.o.op = .load ty y) (b i : Nat) (hy : x.a.eval y = .pointer (some ⟨b, i, none⟩)) (cs : List Value)
  (hl : (loadVar ty ⟨b, i, none⟩).run P w = .ok (.agg cs.toArray) w) (hb : x.a.put x.o.dst (.agg cs.toArray) = x.b) : x.ok P ops w := by
 unfold Pend.ok
 split
 ·exact aj ty y ho b i hy cs hl hb
 ·trivial
end Go.Proofs.YtgljdkjepdknnaaGreatDoor
