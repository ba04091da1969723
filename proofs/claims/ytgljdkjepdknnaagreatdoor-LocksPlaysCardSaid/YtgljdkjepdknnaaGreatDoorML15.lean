/- Joined texts: What somebody holds; asking; a new queue of claims; waiting; leaving. (printed by genholdc.py) Dropping what somebody holds of some claims. (printed by gendropc.py) -/
import Derived.Test.YtgljdkjepdknnaaGreatDoorML13
import Derived.Test.YtgljdkjepdknnaaGreatDoorML14
import Derived.Test.YtgljdkjepdknnaaGreatDoorML6
set_option maxHeartbeats 64000000
namespace Go.Proofs.YtgljdkjepdknnaaGreatDoor
open Go.ChangeShapes Go.WideShapes Go.ChangeAt Go.RowKit
set_option maxRecDepth 100000
set_option linter.unusedSimpArgs false
theorem lI : (Tryz.prog.info? tCl).map (fun i => (i.zero, i.size, i.bytes)) = some (some (.agg #[.int .i64 0, .int .i64 0, .int .i64 0, .bool false, .int .i64 0, .string ⟨#[]⟩, .slice none 0 0, .int .i64 0, .int .i64 0, .bool false, .int .i64 0, .string ⟨#[]⟩, .bool false, .int .i64 0, .string ⟨#[]⟩, .slice none 0 0]), 16, 184) := by kernel_rfl
def rH (D : PH) (v : Value) (L : List Clm) : HP := exP (fun cs : List ClmE => cs.map ClmE.c = L ∧ ∀ x ∈ cs, ClOk D x) (fun cs => [aI tCl 16 v cs.length (cs.flatMap ClmE.cells)])
theorem oO {B w : World} {D D0 : PH} {l : List HP} {v : Value} {L : List Clm} (cs : List ClmE) (h1 : cs.map ClmE.c = L) (h2 : ∀ x ∈ cs, ClOk D x) (h : Sat B D0 w (aI tCl 16 v cs.length (cs.flatMap ClmE.cells) :: l)) : Sat B D0 w (rH D v L :: l) := Sat.close_ex cs ⟨h1, h2⟩ h
theorem dE {B w : World} {D D0 : PH} {l : List HP} {v : Value} {L : List Clm} (h : Sat B D0 w (rH D v L :: l)) : ∃ cs : List ClmE, cs.map ClmE.c = L ∧ (∀ x ∈ cs, ClOk D x) ∧ Sat B D0 w (aI tCl 16 v cs.length (cs.flatMap ClmE.cells) :: l) := by
 obtain ⟨cs, ⟨h1, h2⟩, h3⟩ := Sat.open_ex h
 exact ⟨cs, h1, h2, h3⟩
def cr (hs : List EntE) (o : Int) (j : Nat) : List ClmE := ((hs.take j).filter (fun e => ofE o (aE e))).map (fun e => e.x)
theorem kk {hs : List EntE} {o : Int} {j : Nat} {x : EntE} (hx : hs[j]? = some x) (h : x.o = o) : cr hs o (j + 1) = cr hs o j ++ [x.x] := by
 unfold cr
 rw [aR hx (by unfold ofE; simp [h]), List.map_append]
 rfl
theorem lg {hs : List EntE} {o : Int} {j : Nat} {x : EntE} (hx : hs[j]? = some x) (h : ¬ x.o = o) : cr hs o (j + 1) = cr hs o j := by
 unfold cr
 rw [aW hx (by unfold ofE; simp [h])]
theorem kM (hs : List EntE) (o : Int) (j : Nat) : (cr hs o j).length ≤ j := by
 unfold cr
 rw [List.length_map]
 exact Nat.le_trans (List.length_filter_le _ _) (by rw [List.length_take]; omega)
theorem km {hs : List EntE} {Q : Qm Clm} (o : Int) (h : hs.map aE = Q.held) : (cr hs o hs.length).map ClmE.c = aN Q o := by
 unfold cr aN
 rw [List.take_length, ← h, List.filter_map, List.map_map, List.map_map]
 rfl
abbrev gx (v : Value) (cs : List ClmE) : HP := aI tCl 16 v cs.length (cs.flatMap ClmE.cells)
theorem kB {B w : World} {D : PH} {l : List HP} {q : Nat} {Q : Qm Clm} (o : Int) (hM : Q.held.length ≤ 100000) (h : Sat B D w (bZ D q Q :: l)) :
  Calls Tryz.prog 49 #[.pointer (some ⟨q, 0, none⟩), .int .i64 o] w fun r w' => ∃ v, r = .returned v ∧ Sat B D w' (rH D v (aN Q o) :: bZ D q Q :: l) := by
 obtain ⟨i0, hi, hz0, hz1, hz2⟩ := info_parts lI
 have HI := Eh (And.intro hi (And.intro hz0 (And.intro hz1 hz2)))
 obtain ⟨hv, wv, hs, ws, hr1, hr2, h1⟩ := aU h
 obtain ⟨ha, hc, rfl⟩ := (h1.front 1 rfl).own_shape
 have hlen : hs.length ≤ 100000 := by rw [← List.length_map (f := aE), hr1.1]; exact hM
 obtain ⟨N, hN⟩ : ∃ N, N = hs.length := ⟨_, rfl⟩
 have h1' : Sat B D w (gx (.slice none 0 0) [] :: qbC q (.slice ha N hc) wv :: aI bg 18 (.slice ha N hc) N (hs.flatMap ay) :: bN wv ws :: l) := by rw [hN]; exact h1.own_nil tCl 16
 have wL := Eh hr1
 have vZ := Eh hr2
 have HN := Eh hN.symm
 have uX := Eh h1'
 have hNM : N ≤ 100000 := by omega
 obtain ⟨c0, c1, c2, c3, c4, c5, cf⟩ := aX (h1'.blk 1 rfl)
 clear h h1 h1' hr1 hr2 hN hi hz0 hz1 hz2 hlen
 go_enter Tryz.func49, Tryz.ntmps49
 go_wp2_with fail
 go_loopw [5, 16] (fun ot ii wr2 => ∃ (j : Nat) (ov : Value), ii = .int .i64 j ∧ ot = ov ∧ j ≤ N ∧ Sat B D wr2 (gx ov (cr hs o j) :: qbC q (.slice ha N hc) wv :: aI bg 18 (.slice ha N hc) N (hs.flatMap ay) :: bN wv ws :: l)) (fun _ ii _ => N - (intOf ii).toNat)
 case atStart => exact ⟨0, _, rfl, rfl, by omega, uX.out⟩
 case round =>
  obtain ⟨j, ov, rfl, rfl, hj, hs2⟩ := hrel
  obtain ⟨oa, oc, rfl⟩ := hs2.own_shape
  have hle := kM hs o j
  have vg := Eh hs2
  clear hs2 uX c0 c1 c2 c3 c4 c5 cf
  by_cases hlt : j < N
  ·have hii : (j : Int) < (N : Int) := by omega
   obtain ⟨x, hx⟩ : ∃ x, hs[j]? = some x := ⟨hs[j]'(by rw [HN.out]; exact hlt), List.getElem?_eq_getElem _⟩
   obtain ⟨g, og, rfl, hrng⟩ := aF bT (vg.out.own 2 rfl).rd hx HN.out
   have HL := Eh (dy hrng)
   have HX := Eh hx
   have uY := Eh (vg.out.alloc (ay x).toArray bg)
   clear hx hrng
   generalize hcs : cr hs o j = cs at *
   have wE := Eh hcs
   clear hcs
   go_upto_region 7 with (first | (refine ai rfl _ _ rfl _ _ rfl _ HL.out ?_) | (refine ax rfl _ _ _ rfl (ay x) _ _ rfl rfl (by kernel_rfl) rfl (eE x) ?_))
   clear HL vg
   obtain ⟨W4, hW4, hs4⟩ := Sat.hide uY.out
   rw [← hW4]
   clear hW4 uY
   generalize wr.heap.size = bx at hs4 ⊢
   obtain ⟨x0, _⟩ := ei (hs4.blk 0 rfl)
   by_cases ho : x.o = o
   ·have HT := Eh (kk HX.out ho)
    rw [ho] at x0
    clear ho
    have vt := Eh (az (dZ (hs4.blk 0 rfl)))
    have uZ := Eh (show Sat B D (W4.alloc (.cells x.x.cells.toArray tCl)) (aI tCl 16 (.slice oa cs.length oc) cs.length (cs.flatMap ClmE.cells) :: blk W4.heap.size x.x.cells.toArray tCl :: blk bx (ay x).toArray bg :: qbC q (.slice (some ⟨g, og, none⟩) N hc) wv :: aI bg 18 (.slice (some ⟨g, og, none⟩) N hc) N (hs.flatMap ay) :: bN wv ws :: l) from (hs4.alloc _ _).front 2 rfl)
    have vk := Eh (aS (size := 16) (n := 1) (uZ.out.blk 1 rfl) rfl (by unfold maxLen; omega))
    clear hs4
    go_wp2_with (first | (refine ai rfl _ _ rfl _ _ rfl _ vt.out ?_) | (refine aD rfl _ _ rfl tCl i0 _ x.x.cells rfl Tryz.underlying45 HI.out.1 HI.out.2.1 (HI.out.2.2.1.trans rfl) (by rw [ClmE.len]; decide) (by rw [ClmE.len]; decide) ?_) | (at_builtin; refine au _ rfl _ _ 45 rfl tCl i0 _ 16 184 Tryz.underlying45 HI.out.1 HI.out.2.1 HI.out.2.2.1 HI.out.2.2.2 rfl _ cs.length _ rfl uZ.out _ 1 _ rfl vk.out (by simpa using ClmE.one x.x) (by unfold maxLen; omega) (by omega) ?_; intro v11 w11 hs11 h11; have vl := Eh hs11; clear hs11 uZ vk vt x0))
    go_roundw
    case rel =>
     refine ⟨j + 1, v11, by go_num, rfl, by omega, ?_⟩
     rw [HT.out, wE.out]
     show Sat B D w11 (aI tCl 16 v11 (cs ++ [x.x]).length ((cs ++ [x.x]).flatMap ClmE.cells) :: _)
     rw [List.length_append, List.flatMap_append]
     have h9 := ((vl.out.front 1 rfl).drop.front 1 rfl).drop
     simpa using h9
    case measure => simp [intOf]; omega
   ·have HT := Eh (lg HX.out ho)
    have hne : (x.o == o) = false := by simpa using ho
    have uZ := Eh hs4
    clear ho hs4
    go_wp2_with fail
    go_roundw
    case rel => exact ⟨j + 1, _, by go_num, rfl, by omega, by rw [HT.out, wE.out]; exact uZ.out.drop⟩
    case measure => simp [intOf]; omega
  ·have hii : ¬ ((j : Int) < (N : Int)) := by omega
   have HT := Eh (show (cr hs o j).map ClmE.c = aN Q o by rw [show j = hs.length by rw [HN.out]; omega]; exact km o wL.out.1)
   go_wp2_with fail
   go_ret
   refine ⟨_, rfl, ?_⟩
   have h9 : Sat B D wr (bZ D q Q :: gx (.slice oa (cr hs o j).length oc) (cr hs o j) :: l) := cB (hv := .slice ha N hc) (wv := wv) wL.out vZ.out (by
    show Sat B D wr (qbC q (.slice ha N hc) wv :: aI bg 18 (.slice ha N hc) hs.length (hs.flatMap ay) :: bN wv ws :: gx (.slice oa (cr hs o j).length oc) (cr hs o j) :: l)
    rw [HN.out]
    exact ((vg.out.front 3 rfl).front 3 rfl).front 3 rfl)
   refine oO (cr hs o j) HT.out (fun y hy => ?_) h9.swap
   unfold cr at hy
   obtain ⟨e, he, rfl⟩ := List.mem_map.1 hy
   exact wL.out.2 e (List.mem_of_mem_take (List.mem_filter.1 he).1)
theorem Ask_C {B w : World} {D : PH} {l : List HP} {q : Nat} {Q : Qm Clm} (o : Int) (c : ClmE) (hD : EnvD D) (hc : ClOk D c) (hsm : ClmSm 1000000 c.c) (hqs : ∀ e ∈ Q.held, ClmSm 1000000 e.c) (hh : Q.held.length ≤ 100000) (hww : Q.waits.length ≤ 1000) (h : Sat B D w (bZ D q Q :: l)) :
  Calls Tryz.prog 46 #[.pointer (some ⟨q, 0, none⟩), .int .i64 o, .agg c.cells.toArray] w (pN B D l q (bj RC Q o c.c true)) := by
 obtain ⟨W0, hW0, hs0⟩ : ∃ W, W = w.alloc (.cells c.cells.toArray tCl) ∧ Sat B D W (bZ D q Q :: blk w.heap.size c.cells.toArray tCl :: l) := ⟨_, rfl, (h.alloc _ _).swap⟩
 have xB := Eh hW0
 have HL := Eh (az (ak (hs0.blk 1 rfl)))
 have HA := Eh (ask_C o c true hD hc hsm hqs hh hww hs0)
 clear h hD hW0 hs0 hc hsm hqs
 go_enter Tryz.func46, Tryz.ntmps46
 go_upto_region 1 with fail
 rw [← xB.out]
 clear xB
 generalize w.heap.size = bc at *
 go_wp2_with (first | (refine ai rfl _ _ rfl _ _ rfl _ HL.out ?_) | (go_at_call 87; refine HA.out.mono ?_; rintro e1 w1 ⟨D1, rfl, hle, hs1⟩; have vz := Eh hle; have uX := Eh hs1; clear hs1 hle HA HL))
 go_ret
 exact ⟨D1, rfl, vz.out, uX.out.swap.drop⟩
theorem Try_C {B w : World} {D : PH} {l : List HP} {q : Nat} {Q : Qm Clm} (o : Int) (c : ClmE) (hD : EnvD D) (hc : ClOk D c) (hsm : ClmSm 1000000 c.c) (hqs : ∀ e ∈ Q.held, ClmSm 1000000 e.c) (hh : Q.held.length ≤ 100000) (hww : Q.waits.length ≤ 1000) (h : Sat B D w (bZ D q Q :: l)) :
  Calls Tryz.prog 51 #[.pointer (some ⟨q, 0, none⟩), .int .i64 o, .agg c.cells.toArray] w (pN B D l q (bj RC Q o c.c false)) := by
 obtain ⟨W0, hW0, hs0⟩ : ∃ W, W = w.alloc (.cells c.cells.toArray tCl) ∧ Sat B D W (bZ D q Q :: blk w.heap.size c.cells.toArray tCl :: l) := ⟨_, rfl, (h.alloc _ _).swap⟩
 have xB := Eh hW0
 have HL := Eh (az (ak (hs0.blk 1 rfl)))
 have HA := Eh (ask_C o c false hD hc hsm hqs hh hww hs0)
 clear h hD hW0 hs0 hc hsm hqs
 go_enter Tryz.func51, Tryz.ntmps51
 go_upto_region 1 with fail
 rw [← xB.out]
 clear xB
 generalize w.heap.size = bc at *
 go_wp2_with (first | (refine ai rfl _ _ rfl _ _ rfl _ HL.out ?_) | (go_at_call 87; refine HA.out.mono ?_; rintro e1 w1 ⟨D1, rfl, hle, hs1⟩; have vz := Eh hle; have uX := Eh hs1; clear hs1 hle HA HL))
 go_ret
 exact ⟨D1, rfl, vz.out, uX.out.swap.drop⟩
theorem pX {B w : World} {D : PH} {l : List HP} (h : Sat B D w l) :
  Calls Tryz.prog 39 #[] w fun r w' => ∃ q, r = .returned (.pointer (some ⟨q, 0, none⟩)) ∧ Sat B D w' (bZ D q ⟨[], []⟩ :: l) := by
 have hs1 := ((h.own_nil bg 18).own_nil bg 18).alloc #[.func (.func 74) #[] #[], .func (.func 75) #[] #[], .func (.func 76) #[] #[], .func (.func 77) #[] #[], .slice none 0 0, .slice none 0 0] tQC
 have HS := Eh (cB (D' := D) (Q := ⟨[], []⟩) (hs := []) (ws := []) ⟨rfl, fun _ h => by cases h⟩ ⟨rfl, fun _ h => by cases h⟩ hs1)
 clear h hs1
 go_enter Tryz.func39, Tryz.ntmps39
 go_wp2_with fail
 go_ret
 exact ⟨_, rfl, HS.out⟩
def tR : Clm := ⟨0, 0, 0, ⟨false, 0, ⟨#[]⟩⟩, [], .mk 0 0 ⟨false, 0, ⟨#[]⟩⟩ ⟨false, 0, ⟨#[]⟩⟩ []⟩
abbrev pr0 : PredE := ⟨0, 0, ⟨false, 0, ⟨#[]⟩⟩, ⟨false, 0, ⟨#[]⟩⟩, none, 0, 0, []⟩
abbrev cl0 : ClmE := ⟨0, 0, 0, ⟨false, 0, ⟨#[]⟩⟩, none, 0, 0, [], pr0⟩
theorem g7 (D : PH) : PredsAt D (.slice none 0 0) [] := .mk _ [] (RdP.nil D 9) (fun e he => by cases he)
theorem nK (D : PH) : ClOk D cl0 := ⟨⟨[], rfl, (fun u hu => by cases hu), RdP.nil D 1, (fun i h r a b => by cases a)⟩, g7 D⟩
def aP (Q : Qm Clm) (o : Int) : Clm × Bool := match bJ Q.waits o with
 | some k => match Q.waits[k]? with
  | some e => (e.c, true)
  | none => (tR, false)
 | none => (tR, false)
def WaitsC (B : World) (D : PH) (l : List HP) (q : Nat) (Q : Qm Clm) (o : Int) (r : Ending) (w' : World) : Prop := ∃ z : ClmE, r = .returned (.tuple #[.agg z.cells.toArray, .bool (aP Q o).2]) ∧ z.c = (aP Q o).1 ∧ ClOk D z ∧ Sat B D w' (bZ D q Q :: l)
theorem m8 {B w : World} {D : PH} {l : List HP} {q : Nat} {Q : Qm Clm} (o : Int) (h : Sat B D w (bZ D q Q :: l)) :
  Calls Tryz.prog 42 #[.pointer (some ⟨q, 0, none⟩), .int .i64 o] w (WaitsC B D l q Q o) := by
 obtain ⟨W0, hW0, hs0⟩ : ∃ W, W = (w.alloc (.cells cZ tCl)).alloc (.cells cZ tCl) ∧ Sat B D W (bZ D q Q :: blk w.heap.size cZ tCl :: blk (w.heap.size + 1) cZ tCl :: l) := by
  obtain ⟨W, hW, hs⟩ := cG h cZ cZ tCl tCl
  exact ⟨W, hW, hs.front 2 rfl⟩
 have xB := Eh hW0
 have wt := Eh hs0
 have HW := Eh (jD o hs0)
 clear h hW0 hs0
 cases hwa : bJ Q.waits o with
 | none =>
  have HQ := Eh (show aP Q o = (tR, false) by unfold aP; rw [hwa])
  have hk : cz (ofE o) Q.waits = -1 := by
   unfold bJ at hwa
   unfold cz; rw [hwa]
  rw [hk] at HW
  clear hwa hk
  go_enter Tryz.func42, Tryz.ntmps42
  go_upto_region 2 with fail
  rw [← xB.out]
  clear xB
  generalize w.heap.size + 1 = b2 at wt HW ⊢
  generalize w.heap.size = b1 at wt HW ⊢
  go_upto_region 7 with (go_at_call 82; refine HW.out.mono ?_; rintro e1 w1 ⟨rfl, hk1⟩; have hs1 := wt.out.kept hk1; have HL := Eh (az (x := cl0) (ak (hs1.blk 2 rfl))); have uX := Eh (hs1.front 1 rfl); clear hs1 hk1 HW wt)
  go_wp2_with (first | (refine ai rfl _ _ rfl _ _ rfl _ HL.out ?_) | (refine ap rfl _ _ _ rfl tCl b1 rfl cl0.cells rfl cZ uX.out (by kernel_rfl) rfl (ClmE.one _) ?_; intro w6 hs6; have vi := Eh hs6; clear hs6 uX HL))
  refine bodyPost_ret (aL rfl _ _ rfl (az (ak (vi.out.blk 0 rfl)))) rfl ?_
  have h7 : Sat B D w6 (blk b1 cl0.cells.toArray tCl :: bZ D q Q :: blk b2 cZ tCl :: l) := vi.out
  refine ⟨cl0, ?_, ?_, nK D, h7.drop.swap.drop⟩
  ·rw [HQ.out]; rfl
  ·rw [HQ.out]; rfl
 | some k =>
  have hlt : k < Q.waits.length := by
   unfold bJ at hwa
   exact (List.findIdx?_eq_some_iff_getElem.1 hwa).1
  have hk : cz (ofE o) Q.waits = (k : Int) := by
   unfold bJ at hwa
   unfold cz; rw [hwa]
  rw [hk] at HW
  obtain ⟨y, hy⟩ : ∃ y, Q.waits[k]? = some y := ⟨Q.waits[k], List.getElem?_eq_getElem hlt⟩
  have HQ := Eh (show aP Q o = (y.c, true) by unfold aP; rw [hwa]; dsimp only; rw [hy])
  have HY := Eh hy
  clear hwa hk hy
  go_enter Tryz.func42, Tryz.ntmps42
  go_upto_region 2 with fail
  rw [← xB.out]
  clear xB
  generalize w.heap.size + 1 = b2 at wt HW ⊢
  generalize w.heap.size = b1 at wt HW ⊢
  go_upto_region 5 with (go_at_call 82; refine HW.out.mono ?_; rintro e1 w1 ⟨rfl, hk1⟩; have uX := Eh (wt.out.kept hk1); clear hk1 HW wt)
  obtain ⟨hv, wv, hs, ws, hr1, hr2, h1⟩ := aU uX.out
  obtain ⟨wa, wc, rfl⟩ := (h1.front 2 rfl).own_shape
  obtain ⟨x, hx, hxe⟩ : ∃ x, ws[k]? = some x ∧ aE x = y := by
   have hx0 := HY.out
   rw [← hr2.1, List.getElem?_map] at hx0
   cases hxx : ws[k]? with
   | none => rw [hxx] at hx0; cases hx0
   | some x => rw [hxx] at hx0; exact ⟨x, rfl, Option.some.inj hx0⟩
  have yA := Eh (show x.x.c = y.c by rw [← hxe])
  have xG := Eh (show ClOk D x.x from hr2.2 x (List.mem_of_getElem? hx))
  obtain ⟨g, og, rfl, hrng⟩ := aF bT (h1.own 2 rfl).rd hx rfl
  have HL := Eh (az (ky hrng))
  obtain ⟨c0, c1, c2, c3, c4, c5, cf⟩ := aX (h1.blk 0 rfl)
  have hkl : (k : Int) < (ws.length : Int) := by have := (List.getElem?_eq_some_iff.1 hx).1; omega
  generalize ws.length = nw at c5 hkl
  have vg := Eh (uX.out.front 1 rfl)
  clear hr1 hr2 h1 hx hxe hrng uX
  go_wp2_with (first | (refine ai rfl _ _ rfl _ _ rfl _ HL.out ?_) | (refine ap rfl _ _ _ rfl tCl b1 rfl x.x.cells rfl cZ vg.out (by kernel_rfl) rfl (ClmE.one _) ?_; intro w6 hs6; have vi := Eh hs6; clear hs6 vg HL c0 c1 c2 c3 c4 c5 cf))
  refine bodyPost_ret (aL rfl _ _ rfl (az (ak (vi.out.blk 0 rfl)))) rfl ?_
  have h7 : Sat B D w6 (blk b1 x.x.cells.toArray tCl :: bZ D q Q :: blk b2 cZ tCl :: l) := vi.out
  refine ⟨x.x, ?_, ?_, xG.out, h7.drop.swap.drop⟩
  ·rw [HQ.out]; rfl
  ·rw [HQ.out]; exact yA.out
theorem kE {B w : World} {D : PH} {l : List HP} {q : Nat} {Q : Qm Clm} (o : Int) (hD : EnvD D) (hM : Q.held.length + Q.waits.length ≤ 1000) (h : Sat B D w (bZ D q Q :: l)) :
  Calls Tryz.prog 65 #[.pointer (some ⟨q, 0, none⟩), .int .i64 o] w fun r w' => ∃ v, r = .returned v ∧ Sat B D w' (bZ D q (bu RC Q o).1 :: cj v (bu RC Q o).2 :: l) := by
 obtain ⟨W1, hW1, hs1⟩ := Sat.hide (h.alloc #[.int .i64 o] 3)
 have uW := Eh hW1
 have hsq : Sat B D W1 (bZ D q Q :: blk w.heap.size #[.int .i64 o] 3 :: l) := by rw [hW1]; exact (h.alloc _ _).swap
 obtain ⟨hv, wv, hs, ws, hr1, hr2, h1⟩ := aU hsq
 obtain ⟨wa, wc, rfl⟩ := (h1.front 2 rfl).own_shape
 obtain ⟨c0, c1, c2, c3, c4, c5, cf⟩ := aX (h1.blk 0 rfl)
 have h2 : Sat B D W1 (aI bg 18 (.slice wa ws.length wc) ws.length (ws.flatMap ay) :: qbC q hv (.slice wa ws.length wc) :: bN hv hs :: blk w.heap.size #[.int .i64 o] 3 :: l) := h1.front 2 rfl
 have wO := Eh (jt (F := 109) (caps := #[.pointer (some ⟨w.heap.size, 0, none⟩)]) (fun x => ofE o (aE x)) rfl (enters_of Tryz.func109 (by kernel_rfl) rfl) h2 (fun x hx W X hX => (tU (hX.blk (X.length + 2) (by simp)) x).2 W (Kept.refl _ _)))
 have wL := Eh hr1
 have vZ := Eh hr2
 have HD := Eh hD
 clear h h1 h2 hr1 hr2 hD hs1 hW1 hsq
 go_enter Tryz.func65, Tryz.ntmps65
 go_upto_region 1 with fail
 rw [← uW.out]
 clear uW
 generalize w.heap.size = bo at *
 go_upto_region 4 with (go_at_call 108; refine wO.out.mono ?_; rintro e1 w1 ⟨v1, rfl, hs1⟩; obtain ⟨va, vc, rfl⟩ := hs1.own_shape; clear c0 c1 c2 c3 c4 c5 cf wO; obtain ⟨c0, c1, c2, c3, c4, c5, cf⟩ := aX (hs1.blk 1 rfl); have uX := Eh (Sat.set6 (hs1.front 1 rfl) (.slice va (ws.filter (fun x => !ofE o (aE x))).length vc)); clear hs1)
 obtain ⟨W2, hW2, hs2⟩ := Sat.hide uX.out
 rw [← hW2]
 clear hW2 uX c0 c1 c2 c3 c4 c5 cf
 have hq2 : Sat B D W2 (bZ D q ⟨Q.held, Q.waits.filter (fun e => !ofE o e)⟩ :: blk bo #[.int .i64 o] 3 :: l) := cB (ws := ws.filter (fun x => !ofE o (aE x))) wL.out ⟨by rw [← vZ.out.1, List.filter_map]; rfl, fun x hx => vZ.out.2 x (List.mem_filter.1 hx).1⟩ (hs2.perm ((List.Perm.swap _ _ _).cons _))
 have xY := Eh (tT HD.out (by have := List.length_filter_le (fun e => !ofE o e) Q.waits; show Q.held.length + (Q.waits.filter _).length ≤ 1000; omega) hq2)
 clear hs2 hq2
 go_wp2_with (go_at_call 110; refine xY.out.mono ?_; rintro e3 w3 ⟨v3, rfl, hs3⟩; have uY := Eh hs3; clear hs3 xY)
 go_ret
 exact ⟨_, rfl, uY.out.rm2⟩
theorem kH {α : Type} (X Y : List α) (k : Nat) : (X ++ Y)[X.length + k]? = Y[k]? := by
 rw [List.getElem?_append_right (by omega), show X.length + k - X.length = k by omega]
theorem tM {w : World} {b3 b4 q : Nat} {e : EntE} {hv wv : Value} (h3 : w.heap[b3]? = some (.cells #[.pointer (some ⟨q, 0, none⟩)] 74 (0, 0))) (h4 : w.heap[b4]? = some (.cells (ay e).toArray bg (0, 0))) (hq : w.heap[q]? = some (.cells #[.func (.func 74) #[] #[], .func (.func 75) #[] #[], .func (.func 76) #[] #[], .func (.func 77) #[] #[], hv, wv] tQC (0, 0)))
  (he : RdCl w e.x) (c : ClmE) (hc : RdCl w c) : PredF 141 #[.pointer (some ⟨b3, 0, none⟩), .pointer (some ⟨b4, 0, none⟩)] w c.cells (RC.same e.x.c c.c) := by
 refine ⟨enters_of Tryz.func141 (by kernel_rfl) rfl, fun W hW => ?_⟩
 obtain ⟨W1, hW1, hk1, hbx, hb3⟩ := cm (aB hW h3) c.cells.toArray tCl
 have hk2 := hW.trans hk1 (fun _ h => h.elim)
 have yQ := Eh (az (w := W1.drew) (dZ (w := W1.drew) (aB hk2.drew h4)))
 have vr := Eh (az (w := W1.drew) (ak (w := W1.drew) hbx))
 have vN := Eh (fy (he.kept hk2).drew (hc.kept hk2).drew)
 have uW := Eh hW1
 have vd := Eh hk1
 obtain ⟨d0, _⟩ := aK hb3
 obtain ⟨q0, q1, q2, q3, q4, q5, _⟩ := aX (aB hk2 hq)
 clear h3 h4 hq hW hW1 hk1 hk2 hbx hb3 he hc
 show Calls Tryz.prog 141 #[.agg c.cells.toArray, .pointer (some ⟨b3, 0, none⟩), .pointer (some ⟨b4, 0, none⟩)] W _
 generalize RC.same e.x.c c.c = rr at *
 go_enter Tryz.func141, Tryz.ntmps141
 go_upto_region 1 with fail
 rw [← uW.out]
 clear uW
 generalize W.heap.size = bx at vr ⊢
 refine ag [(0, false, 8), (1, false, 8), (2, false, 8), (3, false, 8), (4, false, 8), (5, false, 8), (6, false, 8), (7, false, 8), (8, true, 0), (9, false, 999)] (by kernel_rfl) (by kernel_rfl) ?_
 iterate 8 (refine af rfl rfl (fun K hK => ?_); (first | ((refine aj _ _ rfl _ _ rfl _ yQ.out ?_); go_simp) | ((refine aj _ _ rfl _ _ rfl _ vr.out ?_); go_simp) | go_simp); refine hK _ ?_; clear hK K)
 refine al rfl ?_
 refine aw rfl (fun K hK => ?_)
 go_simp
 refine vN.out.mono ?_
 rintro e2 w2 ⟨rfl, hk⟩
 have vp := Eh (vd.out.drew.trans hk (fun _ h => h.elim))
 clear hk
 refine hK _ _ ?_
 clear hK K
 refine wpList_nil ?_
 refine And.intro ?_ ?_
 ·go_simp
 refine af rfl rfl (fun K hK => ?_); (first | ((refine aj _ _ rfl _ _ rfl _ yQ.out ?_); go_simp) | ((refine aj _ _ rfl _ _ rfl _ vr.out ?_); go_simp) | go_simp); refine hK _ ?_; clear hK K
 refine ar ?_
 go_wp2_with fail
 go_ret
 exact ⟨rfl, vp.out⟩
noncomputable def cq (o : Int) (G : List Clm) (e : Ent Clm) : Bool := decide (e.o = o) && G.any (fun c => RC.same e.c c)
theorem dropF_C {w : World} {b1 b2 b3 q : Nat} {o : Int} {v hv wv : Value} {cs : List ClmE} (h1 : w.heap[b1]? = some (.cells #[.int .i64 o] 3 (0, 0))) (h2 : w.heap[b2]? = some (.cells #[v] 45 (0, 0))) (h3 : w.heap[b3]? = some (.cells #[.pointer (some ⟨q, 0, none⟩)] 74 (0, 0)))
  (hq : w.heap[q]? = some (.cells #[.func (.func 74) #[] #[], .func (.func 75) #[] #[], .func (.func 76) #[] #[], .func (.func 77) #[] #[], hv, wv] tQC (0, 0))) (hg : Rd w 16 v cs.length (cs.flatMap ClmE.cells)) (hcs : ∀ c ∈ cs, RdCl w c) (x : EntE) (hx : RdCl w x.x) :
  PredF 140 #[.pointer (some ⟨b1, 0, none⟩), .pointer (some ⟨b2, 0, none⟩), .pointer (some ⟨b3, 0, none⟩)] w (ay x) (cq o (cs.map ClmE.c) (aE x)) := by
 refine ⟨enters_of Tryz.func140 (by kernel_rfl) rfl, fun W hW => ?_⟩
 obtain ⟨W1, hW1, hk1, hbx, hb1⟩ := cm (aB hW h1) (ay x).toArray bg
 have hk2 := hW.trans hk1 (fun _ h => h.elim)
 have wS := Eh (gO (fun c => RC.same x.x.c c.c) (hg.kept hk2 (fun _ _ h => h)) (fun c hc => tM (aB hk2 h3) hbx (aB hk2 hq) (hx.kept hk2) c ((hcs c hc).kept hk2)))
 have uW := Eh hW1
 have vd := Eh hk1
 have vJ := Eh hbx
 obtain ⟨c0, _⟩ := aK hb1
 obtain ⟨d0, _⟩ := aK (aB hk2 h2)
 have HP := Eh (show cq o (cs.map ClmE.c) (aE x) = (decide (x.o = o) && cs.any (fun c => RC.same x.x.c c.c)) by unfold cq; rw [List.any_map]; rfl)
 obtain ⟨_, _, va, vc, rfl, _⟩ := hg
 clear h1 h2 h3 hq hW hW1 hk1 hk2 hbx hb1 hcs hx
 show Calls Tryz.prog 140 #[.agg (ay x).toArray, .pointer (some ⟨b1, 0, none⟩), .pointer (some ⟨b2, 0, none⟩), .pointer (some ⟨b3, 0, none⟩)] W _
 rw [HP.out]
 clear HP
 generalize cs.any (fun c => RC.same x.x.c c.c) = rr at *
 by_cases ho : x.o = o
 ·have HO := Eh (show (decide (x.o = o) && rr) = rr by simp [ho])
  rw [HO.out]
  go_enter Tryz.func140, Tryz.ntmps140
  go_upto_region 1 with fail
  rw [← uW.out]
  clear uW HO
  generalize W.heap.size = bx at *
  have x0 := (ei vJ.out).1
  rw [ho] at x0
  clear ho
  go_wp2_with (go_at_call 83; refine wS.out.mono ?_; rintro e1 w1 ⟨rfl, hk3⟩; have vp := Eh (vd.out.trans hk3 (fun _ h => h.elim)); clear hk3 wS x0 c0 d0)
  go_ret
  exact ⟨rfl, vp.out⟩
 ·have HO := Eh (show (decide (x.o = o) && rr) = false by simp [ho])
  have hne : (x.o == o) = false := by simpa using ho
  rw [HO.out]
  go_enter Tryz.func140, Tryz.ntmps140
  go_upto_region 1 with fail
  rw [← uW.out]
  clear uW HO wS
  generalize W.heap.size = bx at *
  have x0 := (ei vJ.out).1
  clear ho
  go_wp2_with fail
  go_ret
  exact ⟨rfl, vd.out⟩
theorem Drop_C {B w : World} {D : PH} {l : List HP} {q : Nat} {Q : Qm Clm} (o : Int) (v : Value) (cs : List ClmE) (hg : RdP D 16 v cs.length (cs.flatMap ClmE.cells)) (hcs : ∀ c ∈ cs, ClOk D c) (hD : EnvD D) (hM : Q.held.length + Q.waits.length ≤ 1000) (h : Sat B D w (bZ D q Q :: l)) :
  Calls Tryz.prog 95 #[.pointer (some ⟨q, 0, none⟩), .int .i64 o, v] w fun r w' => ∃ u, r = .returned u ∧ Sat B D w' (bZ D q (aY RC Q (cq o (cs.map ClmE.c))).1 :: cj u (aY RC Q (cq o (cs.map ClmE.c))).2 :: l) := by
 obtain ⟨va, vc, rfl⟩ := hg.shape
 obtain ⟨W1, hW1, hs1⟩ := d9 h #[.pointer (some ⟨q, 0, none⟩)] #[.int .i64 o] #[.slice va cs.length vc] 74 3 45
 have uW := Eh hW1
 have hs2 : Sat B D W1 (bZ D q Q :: blk w.heap.size #[.pointer (some ⟨q, 0, none⟩)] 74 :: blk (w.heap.size + 1) #[.int .i64 o] 3 :: blk (w.heap.size + 1 + 1) #[.slice va cs.length vc] 45 :: l) := hs1.front 3 rfl
 have wZ := Eh (s9 (F := 140) (caps := #[.pointer (some ⟨w.heap.size + 1, 0, none⟩), .pointer (some ⟨w.heap.size + 1 + 1, 0, none⟩), .pointer (some ⟨w.heap.size, 0, none⟩)]) (cq o (cs.map ClmE.c)) hD hM (enters_of Tryz.func140 (by kernel_rfl) rfl) (fun x hx hv wv ws W X hX => (dropF_C (hX.blk (X.length + 3) (by rw [kH]; rfl)) (hX.blk (X.length + 4) (by rw [kH]; rfl)) (hX.blk (X.length + 2) (by rw [kH]; rfl)) (hX.blk (X.length + 0) (by rw [kH]; rfl)) (hg.rd hX) (fun c hc => (hcs c hc).rd hX) x (hx.rd hX)).2 W (Kept.refl _ _)) hs2)
 have vg := Eh hs2
 obtain ⟨hd0, _⟩ := aK (hs2.blk 1 rfl)
 clear h hs1 hs2 hW1 hD hcs hg
 go_enter Tryz.func95, Tryz.ntmps95
 go_upto_region 1 with fail
 rw [← uW.out]
 clear uW
 generalize w.heap.size + 1 + 1 = b3 at *
 generalize w.heap.size + 1 = b2 at *
 generalize w.heap.size = b1 at *
 go_wp2_with (go_at_call 111; refine wZ.out.mono ?_; rintro e1 w1 ⟨v1, rfl, hs1⟩; have uX := Eh hs1; clear hs1 wZ)
 go_ret
 exact ⟨_, rfl, uX.out.rm2.rm2.rm2⟩
end Go.Proofs.YtgljdkjepdknnaaGreatDoor
