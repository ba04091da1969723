/- Joined texts: What somebody holds; asking; a new queue of claims; waiting; leaving. (printed by genholdc.py) Dropping what somebody holds of some claims. (printed by gendropc.py) -/
import Derived.Test.YtgljdkjepdknnaaGreatDoorMT13
import Derived.Test.YtgljdkjepdknnaaGreatDoorMT14
import Derived.Test.YtgljdkjepdknnaaGreatDoorMT6
set_option maxHeartbeats 64000000
namespace Go.Proofs.YtgljdkjepdknnaaGreatDoor
open Go.ChangeShapes Go.WideShapes Go.ChangeAt Go.RowKit
set_option maxRecDepth 100000
set_option linter.unusedSimpArgs false
theorem kz : (Tryz.prog.info? tCl).map (fun i => (i.zero, i.size, i.bytes)) = some (some (.agg #[.int .i64 0, .int .i64 0, .int .i64 0, .bool false, .int .i64 0, .string ⟨#[]⟩, .slice none 0 0, .int .i64 0, .int .i64 0, .bool false, .int .i64 0, .string ⟨#[]⟩, .bool false, .int .i64 0, .string ⟨#[]⟩, .slice none 0 0]), 16, 184) := by kernel_rfl
def pd (D : PH) (v : Value) (L : List Clm) : HP := exP (fun cs : List ClmE => cs.map ClmE.c = L ∧ ∀ x ∈ cs, ClOk D x) (fun cs => [aJ tCl 16 v cs.length (cs.flatMap ClmE.cells)])
theorem mH {B w : World} {D D0 : PH} {l : List HP} {v : Value} {L : List Clm} (cs : List ClmE) (h1 : cs.map ClmE.c = L) (h2 : ∀ x ∈ cs, ClOk D x) (h : Sat B D0 w (aJ tCl 16 v cs.length (cs.flatMap ClmE.cells) :: l)) : Sat B D0 w (pd D v L :: l) := Sat.close_ex cs ⟨h1, h2⟩ h
theorem d4 {B w : World} {D D0 : PH} {l : List HP} {v : Value} {L : List Clm} (h : Sat B D0 w (pd D v L :: l)) : ∃ cs : List ClmE, cs.map ClmE.c = L ∧ (∀ x ∈ cs, ClOk D x) ∧ Sat B D0 w (aJ tCl 16 v cs.length (cs.flatMap ClmE.cells) :: l) := by
 obtain ⟨cs, ⟨h1, h2⟩, h3⟩ := Sat.open_ex h
 exact ⟨cs, h1, h2, h3⟩
def bV (hs : List EntE) (o : Int) (j : Nat) : List ClmE := ((hs.take j).filter (fun e => ofE o (aG e))).map (fun e => e.x)
theorem jk {hs : List EntE} {o : Int} {j : Nat} {x : EntE} (hx : hs[j]? = some x) (h : x.o = o) : bV hs o (j + 1) = bV hs o j ++ [x.x] := by
 unfold bV
 rw [aO hx (by unfold ofE; simp [h]), List.map_append]
 rfl
theorem kC {hs : List EntE} {o : Int} {j : Nat} {x : EntE} (hx : hs[j]? = some x) (h : ¬ x.o = o) : bV hs o (j + 1) = bV hs o j := by
 unfold bV
 rw [aQ hx (by unfold ofE; simp [h])]
theorem kk (hs : List EntE) (o : Int) (j : Nat) : (bV hs o j).length ≤ j := by
 unfold bV
 rw [List.length_map]
 exact Nat.le_trans (List.length_filter_le _ _) (by rw [List.length_take]; omega)
theorem jr {hs : List EntE} {Q : Qm Clm} (o : Int) (h : hs.map aG = Q.held) : (bV hs o hs.length).map ClmE.c = aE Q o := by
 unfold bV aE
 rw [List.take_length, ← h, List.filter_map, List.map_map, List.map_map]
 rfl
abbrev dI (v : Value) (cs : List ClmE) : HP := aJ tCl 16 v cs.length (cs.flatMap ClmE.cells)
theorem jE {B w : World} {D : PH} {l : List HP} {q : Nat} {Q : Qm Clm} (o : Int) (hM : Q.held.length ≤ 100000) (h : Sat B D w (bP D q Q :: l)) :
  Calls Tryz.prog 49 #[.pointer (some ⟨q, 0, none⟩), .int .i64 o] w fun r w' => ∃ v, r = .returned v ∧ Sat B D w' (pd D v (aE Q o) :: bP D q Q :: l) := by
 obtain ⟨i0, hi, hz0, hz1, hz2⟩ := info_parts kz
 have HI := BO (And.intro hi (And.intro hz0 (And.intro hz1 hz2)))
 obtain ⟨hv, wv, hs, ws, hr1, hr2, h1⟩ := aU h
 obtain ⟨ha, hc, rfl⟩ := (h1.front 1 rfl).own_shape
 have hlen : hs.length ≤ 100000 := by rw [← List.length_map (f := aG), hr1.1]; exact hM
 obtain ⟨N, hN⟩ : ∃ N, N = hs.length := ⟨_, rfl⟩
 have h1' : Sat B D w (dI (.slice none 0 0) [] :: qbC q (.slice ha N hc) wv :: aJ bg 18 (.slice ha N hc) N (hs.flatMap au) :: bU wv ws :: l) := by rw [hN]; exact h1.own_nil tCl 16
 have ut := BO hr1
 have tR := BO hr2
 have HN := BO hN.symm
 have sS := BO h1'
 have hNM : N ≤ 100000 := by omega
 obtain ⟨c0, c1, c2, c3, c4, c5, cf⟩ := a7 (h1'.blk 1 rfl)
 clear h h1 h1' hr1 hr2 hN hi hz0 hz1 hz2 hlen
 go_enter Tryz.func49, Tryz.ntmps49
 go_wp2_with fail
 go_loopw [5, 16] (fun ot ii wr2 => ∃ (j : Nat) (ov : Value), ii = .int .i64 j ∧ ot = ov ∧ j ≤ N ∧ Sat B D wr2 (dI ov (bV hs o j) :: qbC q (.slice ha N hc) wv :: aJ bg 18 (.slice ha N hc) N (hs.flatMap au) :: bU wv ws :: l)) (fun _ ii _ => N - (intOf ii).toNat)
 case atStart => exact ⟨0, _, rfl, rfl, by omega, sS.out⟩
 case round =>
  obtain ⟨j, ov, rfl, rfl, hj, hs2⟩ := hrel
  obtain ⟨oa, oc, rfl⟩ := hs2.own_shape
  have hle := kk hs o j
  have sX := BO hs2
  clear hs2 sS c0 c1 c2 c3 c4 c5 cf
  by_cases hlt : j < N
  ·have hii : (j : Int) < (N : Int) := by omega
   obtain ⟨x, hx⟩ : ∃ x, hs[j]? = some x := ⟨hs[j]'(by rw [HN.out]; exact hlt), List.getElem?_eq_getElem _⟩
   obtain ⟨g, og, rfl, hrng⟩ := aD bM (sX.out.own 2 rfl).rd hx HN.out
   have HL := BO (dk hrng)
   have HX := BO hx
   have sU := BO (sX.out.alloc (au x).toArray bg)
   clear hx hrng
   generalize hcs : bV hs o j = cs at *
   have ui := BO hcs
   clear hcs
   go_upto_region 7 with (first | (refine ag rfl _ _ rfl _ _ rfl _ HL.out ?_) | (refine ax rfl _ _ _ rfl (au x) _ _ rfl rfl (by kernel_rfl) rfl (eA x) ?_))
   clear HL sX
   obtain ⟨W4, hW4, hs4⟩ := Sat.hide sU.out
   rw [← hW4]
   clear hW4 sU
   generalize wr.heap.size = bx at hs4 ⊢
   obtain ⟨x0, _⟩ := d5 (hs4.blk 0 rfl)
   by_cases ho : x.o = o
   ·have HT := BO (jk HX.out ho)
    rw [ho] at x0
    clear ho
    have th := BO (ay (dR (hs4.blk 0 rfl)))
    have sV := BO (show Sat B D (W4.alloc (.cells x.x.cells.toArray tCl)) (aJ tCl 16 (.slice oa cs.length oc) cs.length (cs.flatMap ClmE.cells) :: blk W4.heap.size x.x.cells.toArray tCl :: blk bx (au x).toArray bg :: qbC q (.slice (some ⟨g, og, none⟩) N hc) wv :: aJ bg 18 (.slice (some ⟨g, og, none⟩) N hc) N (hs.flatMap au) :: bU wv ws :: l) from (hs4.alloc _ _).front 2 rfl)
    have s5 := BO (aT (size := 16) (n := 1) (sV.out.blk 1 rfl) rfl (by unfold maxLen; omega))
    clear hs4
    go_wp2_with (first | (refine ag rfl _ _ rfl _ _ rfl _ th.out ?_) | (refine aC rfl _ _ rfl tCl i0 _ x.x.cells rfl Tryz.underlying45 HI.out.1 HI.out.2.1 (HI.out.2.2.1.trans rfl) (by rw [ClmE.len]; decide) (by rw [ClmE.len]; decide) ?_) | (at_builtin; refine ar _ rfl _ _ 45 rfl tCl i0 _ 16 184 Tryz.underlying45 HI.out.1 HI.out.2.1 HI.out.2.2.1 HI.out.2.2.2 rfl _ cs.length _ rfl sV.out _ 1 _ rfl s5.out (by simpa using ClmE.one x.x) (by unfold maxLen; omega) (by omega) ?_; intro v11 w11 hs11 h11; have s6 := BO hs11; clear hs11 sV s5 th x0))
    go_roundw
    case rel =>
     refine ⟨j + 1, v11, by go_num, rfl, by omega, ?_⟩
     rw [HT.out, ui.out]
     show Sat B D w11 (aJ tCl 16 v11 (cs ++ [x.x]).length ((cs ++ [x.x]).flatMap ClmE.cells) :: _)
     rw [List.length_append, List.flatMap_append]
     have h9 := ((s6.out.front 1 rfl).drop.front 1 rfl).drop
     simpa using h9
    case measure => simp [intOf]; omega
   ·have HT := BO (kC HX.out ho)
    have hne : (x.o == o) = false := by simpa using ho
    have sV := BO hs4
    clear ho hs4
    go_wp2_with fail
    go_roundw
    case rel => exact ⟨j + 1, _, by go_num, rfl, by omega, by rw [HT.out, ui.out]; exact sV.out.drop⟩
    case measure => simp [intOf]; omega
  ·have hii : ¬ ((j : Int) < (N : Int)) := by omega
   have HT := BO (show (bV hs o j).map ClmE.c = aE Q o by rw [show j = hs.length by rw [HN.out]; omega]; exact jr o ut.out.1)
   go_wp2_with fail
   go_ret
   refine ⟨_, rfl, ?_⟩
   have h9 : Sat B D wr (bP D q Q :: dI (.slice oa (bV hs o j).length oc) (bV hs o j) :: l) := cr (hv := .slice ha N hc) (wv := wv) ut.out tR.out (by
    show Sat B D wr (qbC q (.slice ha N hc) wv :: aJ bg 18 (.slice ha N hc) hs.length (hs.flatMap au) :: bU wv ws :: dI (.slice oa (bV hs o j).length oc) (bV hs o j) :: l)
    rw [HN.out]
    exact ((sX.out.front 3 rfl).front 3 rfl).front 3 rfl)
   refine mH (bV hs o j) HT.out (fun y hy => ?_) h9.swap
   unfold bV at hy
   obtain ⟨e, he, rfl⟩ := List.mem_map.1 hy
   exact ut.out.2 e (List.mem_of_mem_take (List.mem_filter.1 he).1)
theorem Ask_C {B w : World} {D : PH} {l : List HP} {q : Nat} {Q : Qm Clm} (o : Int) (c : ClmE) (hD : EnvD D) (hc : ClOk D c) (hsm : ClmSm 1000000 c.c) (hqs : ∀ e ∈ Q.held, ClmSm 1000000 e.c) (hh : Q.held.length ≤ 100000) (hww : Q.waits.length ≤ 1000) (h : Sat B D w (bP D q Q :: l)) :
  Calls Tryz.prog 46 #[.pointer (some ⟨q, 0, none⟩), .int .i64 o, .agg c.cells.toArray] w (nM B D l q (aV RC Q o c.c true)) := by
 obtain ⟨W0, hW0, hs0⟩ : ∃ W, W = w.alloc (.cells c.cells.toArray tCl) ∧ Sat B D W (bP D q Q :: blk w.heap.size c.cells.toArray tCl :: l) := ⟨_, rfl, (h.alloc _ _).swap⟩
 have vx := BO hW0
 have HL := BO (ay (ai (hs0.blk 1 rfl)))
 have HA := BO (ask_C o c true hD hc hsm hqs hh hww hs0)
 clear h hD hW0 hs0 hc hsm hqs
 go_enter Tryz.func46, Tryz.ntmps46
 go_upto_region 1 with fail
 rw [← vx.out]
 clear vx
 generalize w.heap.size = bc at *
 go_wp2_with (first | (refine ag rfl _ _ rfl _ _ rfl _ HL.out ?_) | (go_at_call 87; refine HA.out.mono ?_; rintro e1 w1 ⟨D1, rfl, hle, hs1⟩; have tt := BO hle; have sS := BO hs1; clear hs1 hle HA HL))
 go_ret
 exact ⟨D1, rfl, tt.out, sS.out.swap.drop⟩
theorem Try_C {B w : World} {D : PH} {l : List HP} {q : Nat} {Q : Qm Clm} (o : Int) (c : ClmE) (hD : EnvD D) (hc : ClOk D c) (hsm : ClmSm 1000000 c.c) (hqs : ∀ e ∈ Q.held, ClmSm 1000000 e.c) (hh : Q.held.length ≤ 100000) (hww : Q.waits.length ≤ 1000) (h : Sat B D w (bP D q Q :: l)) :
  Calls Tryz.prog 51 #[.pointer (some ⟨q, 0, none⟩), .int .i64 o, .agg c.cells.toArray] w (nM B D l q (aV RC Q o c.c false)) := by
 obtain ⟨W0, hW0, hs0⟩ : ∃ W, W = w.alloc (.cells c.cells.toArray tCl) ∧ Sat B D W (bP D q Q :: blk w.heap.size c.cells.toArray tCl :: l) := ⟨_, rfl, (h.alloc _ _).swap⟩
 have vx := BO hW0
 have HL := BO (ay (ai (hs0.blk 1 rfl)))
 have HA := BO (ask_C o c false hD hc hsm hqs hh hww hs0)
 clear h hD hW0 hs0 hc hsm hqs
 go_enter Tryz.func51, Tryz.ntmps51
 go_upto_region 1 with fail
 rw [← vx.out]
 clear vx
 generalize w.heap.size = bc at *
 go_wp2_with (first | (refine ag rfl _ _ rfl _ _ rfl _ HL.out ?_) | (go_at_call 87; refine HA.out.mono ?_; rintro e1 w1 ⟨D1, rfl, hle, hs1⟩; have tt := BO hle; have sS := BO hs1; clear hs1 hle HA HL))
 go_ret
 exact ⟨D1, rfl, tt.out, sS.out.swap.drop⟩
theorem oR {B w : World} {D : PH} {l : List HP} (h : Sat B D w l) :
  Calls Tryz.prog 39 #[] w fun r w' => ∃ q, r = .returned (.pointer (some ⟨q, 0, none⟩)) ∧ Sat B D w' (bP D q ⟨[], []⟩ :: l) := by
 have hs1 := ((h.own_nil bg 18).own_nil bg 18).alloc #[.func (.func 74) #[] #[], .func (.func 75) #[] #[], .func (.func 76) #[] #[], .func (.func 77) #[] #[], .slice none 0 0, .slice none 0 0] tQC
 have HS := BO (cr (D' := D) (Q := ⟨[], []⟩) (hs := []) (ws := []) ⟨rfl, fun _ h => by cases h⟩ ⟨rfl, fun _ h => by cases h⟩ hs1)
 clear h hs1
 go_enter Tryz.func39, Tryz.ntmps39
 go_wp2_with fail
 go_ret
 exact ⟨_, rfl, HS.out⟩
def clm0 : Clm := ⟨0, 0, 0, ⟨false, 0, ⟨#[]⟩⟩, [], .mk 0 0 ⟨false, 0, ⟨#[]⟩⟩ ⟨false, 0, ⟨#[]⟩⟩ []⟩
abbrev pr0 : PredE := ⟨0, 0, ⟨false, 0, ⟨#[]⟩⟩, ⟨false, 0, ⟨#[]⟩⟩, none, 0, 0, []⟩
abbrev cl0 : ClmE := ⟨0, 0, 0, ⟨false, 0, ⟨#[]⟩⟩, none, 0, 0, [], pr0⟩
theorem gb (D : PH) : PredsAt D (.slice none 0 0) [] := .mk _ [] (RdP.nil D 9) (fun e he => by cases he)
theorem l4 (D : PH) : ClOk D cl0 := ⟨⟨[], rfl, (fun u hu => by cases hu), RdP.nil D 1, (fun i h r a b => by cases a)⟩, gb D⟩
def aS (Q : Qm Clm) (o : Int) : Clm × Bool := match b8 Q.waits o with
 | some k => match Q.waits[k]? with
  | some e => (e.c, true)
  | none => (clm0, false)
 | none => (clm0, false)
def WaitsC (B : World) (D : PH) (l : List HP) (q : Nat) (Q : Qm Clm) (o : Int) (r : Ending) (w' : World) : Prop := ∃ z : ClmE, r = .returned (.tuple #[.agg z.cells.toArray, .bool (aS Q o).2]) ∧ z.c = (aS Q o).1 ∧ ClOk D z ∧ Sat B D w' (bP D q Q :: l)
theorem pa {B w : World} {D : PH} {l : List HP} {q : Nat} {Q : Qm Clm} (o : Int) (h : Sat B D w (bP D q Q :: l)) :
  Calls Tryz.prog 42 #[.pointer (some ⟨q, 0, none⟩), .int .i64 o] w (WaitsC B D l q Q o) := by
 obtain ⟨W0, hW0, hs0⟩ : ∃ W, W = (w.alloc (.cells cZ tCl)).alloc (.cells cZ tCl) ∧ Sat B D W (bP D q Q :: blk w.heap.size cZ tCl :: blk (w.heap.size + 1) cZ tCl :: l) := by
  obtain ⟨W, hW, hs⟩ := cy h cZ cZ tCl tCl
  exact ⟨W, hW, hs.front 2 rfl⟩
 have vx := BO hW0
 have tZ := BO hs0
 have HW := BO (lI o hs0)
 clear h hW0 hs0
 cases hwa : b8 Q.waits o with
 | none =>
  have HQ := BO (show aS Q o = (clm0, false) by unfold aS; rw [hwa])
  have hk : cl (ofE o) Q.waits = -1 := by
   unfold b8 at hwa
   unfold cl; rw [hwa]
  rw [hk] at HW
  clear hwa hk
  go_enter Tryz.func42, Tryz.ntmps42
  go_upto_region 2 with fail
  rw [← vx.out]
  clear vx
  generalize w.heap.size + 1 = b2 at tZ HW ⊢
  generalize w.heap.size = b1 at tZ HW ⊢
  go_upto_region 7 with (go_at_call 82; refine HW.out.mono ?_; rintro e1 w1 ⟨rfl, hk1⟩; have hs1 := tZ.out.kept hk1; have HL := BO (ay (x := cl0) (ai (hs1.blk 2 rfl))); have sS := BO (hs1.front 1 rfl); clear hs1 hk1 HW tZ)
  go_wp2_with (first | (refine ag rfl _ _ rfl _ _ rfl _ HL.out ?_) | (refine aq rfl _ _ _ rfl tCl b1 rfl cl0.cells rfl cZ sS.out (by kernel_rfl) rfl (ClmE.one _) ?_; intro w6 hs6; have s0 := BO hs6; clear hs6 sS HL))
  refine bodyPost_ret (aL rfl _ _ rfl (ay (ai (s0.out.blk 0 rfl)))) rfl ?_
  have h7 : Sat B D w6 (blk b1 cl0.cells.toArray tCl :: bP D q Q :: blk b2 cZ tCl :: l) := s0.out
  refine ⟨cl0, ?_, ?_, l4 D, h7.drop.swap.drop⟩
  ·rw [HQ.out]; rfl
  ·rw [HQ.out]; rfl
 | some k =>
  have hlt : k < Q.waits.length := by
   unfold b8 at hwa
   exact (List.findIdx?_eq_some_iff_getElem.1 hwa).1
  have hk : cl (ofE o) Q.waits = (k : Int) := by
   unfold b8 at hwa
   unfold cl; rw [hwa]
  rw [hk] at HW
  obtain ⟨y, hy⟩ : ∃ y, Q.waits[k]? = some y := ⟨Q.waits[k], List.getElem?_eq_getElem hlt⟩
  have HQ := BO (show aS Q o = (y.c, true) by unfold aS; rw [hwa]; dsimp only; rw [hy])
  have HY := BO hy
  clear hwa hk hy
  go_enter Tryz.func42, Tryz.ntmps42
  go_upto_region 2 with fail
  rw [← vx.out]
  clear vx
  generalize w.heap.size + 1 = b2 at tZ HW ⊢
  generalize w.heap.size = b1 at tZ HW ⊢
  go_upto_region 5 with (go_at_call 82; refine HW.out.mono ?_; rintro e1 w1 ⟨rfl, hk1⟩; have sS := BO (tZ.out.kept hk1); clear hk1 HW tZ)
  obtain ⟨hv, wv, hs, ws, hr1, hr2, h1⟩ := aU sS.out
  obtain ⟨wa, wc, rfl⟩ := (h1.front 2 rfl).own_shape
  obtain ⟨x, hx, hxe⟩ : ∃ x, ws[k]? = some x ∧ aG x = y := by
   have hx0 := HY.out
   rw [← hr2.1, List.getElem?_map] at hx0
   cases hxx : ws[k]? with
   | none => rw [hxx] at hx0; cases hx0
   | some x => rw [hxx] at hx0; exact ⟨x, rfl, Option.some.inj hx0⟩
  have vQ := BO (show x.x.c = y.c by rw [← hxe])
  have uW := BO (show ClOk D x.x from hr2.2 x (List.mem_of_getElem? hx))
  obtain ⟨g, og, rfl, hrng⟩ := aD bM (h1.own 2 rfl).rd hx rfl
  have HL := BO (ay (lT hrng))
  obtain ⟨c0, c1, c2, c3, c4, c5, cf⟩ := a7 (h1.blk 0 rfl)
  have hkl : (k : Int) < (ws.length : Int) := by have := (List.getElem?_eq_some_iff.1 hx).1; omega
  generalize ws.length = nw at c5 hkl
  have sX := BO (sS.out.front 1 rfl)
  clear hr1 hr2 h1 hx hxe hrng sS
  go_wp2_with (first | (refine ag rfl _ _ rfl _ _ rfl _ HL.out ?_) | (refine aq rfl _ _ _ rfl tCl b1 rfl x.x.cells rfl cZ sX.out (by kernel_rfl) rfl (ClmE.one _) ?_; intro w6 hs6; have s0 := BO hs6; clear hs6 sX HL c0 c1 c2 c3 c4 c5 cf))
  refine bodyPost_ret (aL rfl _ _ rfl (ay (ai (s0.out.blk 0 rfl)))) rfl ?_
  have h7 : Sat B D w6 (blk b1 x.x.cells.toArray tCl :: bP D q Q :: blk b2 cZ tCl :: l) := s0.out
  refine ⟨x.x, ?_, ?_, uW.out, h7.drop.swap.drop⟩
  ·rw [HQ.out]; rfl
  ·rw [HQ.out]; exact vQ.out
theorem jF {B w : World} {D : PH} {l : List HP} {q : Nat} {Q : Qm Clm} (o : Int) (hD : EnvD D) (hM : Q.held.length + Q.waits.length ≤ 1000) (h : Sat B D w (bP D q Q :: l)) :
  Calls Tryz.prog 65 #[.pointer (some ⟨q, 0, none⟩), .int .i64 o] w fun r w' => ∃ v, r = .returned v ∧ Sat B D w' (bP D q (bj RC Q o).1 :: cq v (bj RC Q o).2 :: l) := by
 obtain ⟨W1, hW1, hs1⟩ := Sat.hide (h.alloc #[.int .i64 o] 3)
 have sR := BO hW1
 have hsq : Sat B D W1 (bP D q Q :: blk w.heap.size #[.int .i64 o] 3 :: l) := by rw [hW1]; exact (h.alloc _ _).swap
 obtain ⟨hv, wv, hs, ws, hr1, hr2, h1⟩ := aU hsq
 obtain ⟨wa, wc, rfl⟩ := (h1.front 2 rfl).own_shape
 obtain ⟨c0, c1, c2, c3, c4, c5, cf⟩ := a7 (h1.blk 0 rfl)
 have h2 : Sat B D W1 (aJ bg 18 (.slice wa ws.length wc) ws.length (ws.flatMap au) :: qbC q hv (.slice wa ws.length wc) :: bU hv hs :: blk w.heap.size #[.int .i64 o] 3 :: l) := h1.front 2 rfl
 have ur := BO (iA (F := 109) (caps := #[.pointer (some ⟨w.heap.size, 0, none⟩)]) (fun x => ofE o (aG x)) rfl (enters_of Tryz.func109 (by kernel_rfl) rfl) h2 (fun x hx W X hX => (rp (hX.blk (X.length + 2) (by simp)) x).2 W (Kept.refl _ _)))
 have ut := BO hr1
 have tR := BO hr2
 have HD := BO hD
 clear h h1 h2 hr1 hr2 hD hs1 hW1 hsq
 go_enter Tryz.func65, Tryz.ntmps65
 go_upto_region 1 with fail
 rw [← sR.out]
 clear sR
 generalize w.heap.size = bo at *
 go_upto_region 4 with (go_at_call 108; refine ur.out.mono ?_; rintro e1 w1 ⟨v1, rfl, hs1⟩; obtain ⟨va, vc, rfl⟩ := hs1.own_shape; clear c0 c1 c2 c3 c4 c5 cf ur; obtain ⟨c0, c1, c2, c3, c4, c5, cf⟩ := a7 (hs1.blk 1 rfl); have sS := BO (Sat.set6 (hs1.front 1 rfl) (.slice va (ws.filter (fun x => !ofE o (aG x))).length vc)); clear hs1)
 obtain ⟨W2, hW2, hs2⟩ := Sat.hide sS.out
 rw [← hW2]
 clear hW2 sS c0 c1 c2 c3 c4 c5 cf
 have hq2 : Sat B D W2 (bP D q ⟨Q.held, Q.waits.filter (fun e => !ofE o e)⟩ :: blk bo #[.int .i64 o] 3 :: l) := cr (ws := ws.filter (fun x => !ofE o (aG x))) ut.out ⟨by rw [← tR.out.1, List.filter_map]; rfl, fun x hx => tR.out.2 x (List.mem_filter.1 hx).1⟩ (hs2.perm ((List.Perm.swap _ _ _).cons _))
 have vu := BO (rV HD.out (by have := List.length_filter_le (fun e => !ofE o e) Q.waits; show Q.held.length + (Q.waits.filter _).length ≤ 1000; omega) hq2)
 clear hs2 hq2
 go_wp2_with (go_at_call 110; refine vu.out.mono ?_; rintro e3 w3 ⟨v3, rfl, hs3⟩; have sU := BO hs3; clear hs3 vu)
 go_ret
 exact ⟨_, rfl, sU.out.rm2⟩
theorem jy {α : Type} (X Y : List α) (k : Nat) : (X ++ Y)[X.length + k]? = Y[k]? := by
 rw [List.getElem?_append_right (by omega), show X.length + k - X.length = k by omega]
theorem sL {w : World} {b3 b4 q : Nat} {e : EntE} {hv wv : Value} (h3 : w.heap[b3]? = some (.cells #[.pointer (some ⟨q, 0, none⟩)] 74 (0, 0))) (h4 : w.heap[b4]? = some (.cells (au e).toArray bg (0, 0))) (hq : w.heap[q]? = some (.cells #[.func (.func 74) #[] #[], .func (.func 75) #[] #[], .func (.func 76) #[] #[], .func (.func 77) #[] #[], hv, wv] tQC (0, 0)))
  (he : RdCl w e.x) (c : ClmE) (hc : RdCl w c) : PredF 141 #[.pointer (some ⟨b3, 0, none⟩), .pointer (some ⟨b4, 0, none⟩)] w c.cells (RC.same e.x.c c.c) := by
 refine ⟨enters_of Tryz.func141 (by kernel_rfl) rfl, fun W hW => ?_⟩
 obtain ⟨W1, hW1, hk1, hbx, hb3⟩ := bQ (aA hW h3) c.cells.toArray tCl
 have hk2 := hW.trans hk1 (fun _ h => h.elim)
 have wk := BO (ay (w := W1.drew) (dR (w := W1.drew) (aA hk2.drew h4)))
 have tg := BO (ay (w := W1.drew) (ai (w := W1.drew) hbx))
 have tD := BO (eR (he.kept hk2).drew (hc.kept hk2).drew)
 have sR := BO hW1
 have sW := BO hk1
 obtain ⟨d0, _⟩ := aM hb3
 obtain ⟨q0, q1, q2, q3, q4, q5, _⟩ := a7 (aA hk2 hq)
 clear h3 h4 hq hW hW1 hk1 hk2 hbx hb3 he hc
 show Calls Tryz.prog 141 #[.agg c.cells.toArray, .pointer (some ⟨b3, 0, none⟩), .pointer (some ⟨b4, 0, none⟩)] W _
 generalize RC.same e.x.c c.c = rr at *
 go_enter Tryz.func141, Tryz.ntmps141
 go_upto_region 1 with fail
 rw [← sR.out]
 clear sR
 generalize W.heap.size = bx at tg ⊢
 refine af [(0, false, 8), (1, false, 8), (2, false, 8), (3, false, 8), (4, false, 8), (5, false, 8), (6, false, 8), (7, false, 8), (8, true, 0), (9, false, 999)] (by kernel_rfl) (by kernel_rfl) ?_
 iterate 8 (refine ae rfl rfl (fun K hK => ?_); (first | ((refine aj _ _ rfl _ _ rfl _ wk.out ?_); go_simp) | ((refine aj _ _ rfl _ _ rfl _ tg.out ?_); go_simp) | go_simp); refine hK _ ?_; clear hK K)
 refine al rfl ?_
 refine aw rfl (fun K hK => ?_)
 go_simp
 refine tD.out.mono ?_
 rintro e2 w2 ⟨rfl, hk⟩
 have s8 := BO (sW.out.drew.trans hk (fun _ h => h.elim))
 clear hk
 refine hK _ _ ?_
 clear hK K
 refine wpList_nil ?_
 refine And.intro ?_ ?_
 ·go_simp
 refine ae rfl rfl (fun K hK => ?_); (first | ((refine aj _ _ rfl _ _ rfl _ wk.out ?_); go_simp) | ((refine aj _ _ rfl _ _ rfl _ tg.out ?_); go_simp) | go_simp); refine hK _ ?_; clear hK K
 refine ap ?_
 go_wp2_with fail
 go_ret
 exact ⟨rfl, s8.out⟩
noncomputable def bT (o : Int) (G : List Clm) (e : Ent Clm) : Bool := decide (e.o = o) && G.any (fun c => RC.same e.c c)
theorem dropF_C {w : World} {b1 b2 b3 q : Nat} {o : Int} {v hv wv : Value} {cs : List ClmE} (h1 : w.heap[b1]? = some (.cells #[.int .i64 o] 3 (0, 0))) (h2 : w.heap[b2]? = some (.cells #[v] 45 (0, 0))) (h3 : w.heap[b3]? = some (.cells #[.pointer (some ⟨q, 0, none⟩)] 74 (0, 0)))
  (hq : w.heap[q]? = some (.cells #[.func (.func 74) #[] #[], .func (.func 75) #[] #[], .func (.func 76) #[] #[], .func (.func 77) #[] #[], hv, wv] tQC (0, 0))) (hg : Rd w 16 v cs.length (cs.flatMap ClmE.cells)) (hcs : ∀ c ∈ cs, RdCl w c) (x : EntE) (hx : RdCl w x.x) :
  PredF 140 #[.pointer (some ⟨b1, 0, none⟩), .pointer (some ⟨b2, 0, none⟩), .pointer (some ⟨b3, 0, none⟩)] w (au x) (bT o (cs.map ClmE.c) (aG x)) := by
 refine ⟨enters_of Tryz.func140 (by kernel_rfl) rfl, fun W hW => ?_⟩
 obtain ⟨W1, hW1, hk1, hbx, hb1⟩ := bQ (aA hW h1) (au x).toArray bg
 have hk2 := hW.trans hk1 (fun _ h => h.elim)
 have vS := BO (fZ (fun c => RC.same x.x.c c.c) (hg.kept hk2 (fun _ _ h => h)) (fun c hc => sL (aA hk2 h3) hbx (aA hk2 hq) (hx.kept hk2) c ((hcs c hc).kept hk2)))
 have sR := BO hW1
 have sW := BO hk1
 have tu := BO hbx
 obtain ⟨c0, _⟩ := aM hb1
 obtain ⟨d0, _⟩ := aM (aA hk2 h2)
 have HP := BO (show bT o (cs.map ClmE.c) (aG x) = (decide (x.o = o) && cs.any (fun c => RC.same x.x.c c.c)) by unfold bT; rw [List.any_map]; rfl)
 obtain ⟨_, _, va, vc, rfl, _⟩ := hg
 clear h1 h2 h3 hq hW hW1 hk1 hk2 hbx hb1 hcs hx
 show Calls Tryz.prog 140 #[.agg (au x).toArray, .pointer (some ⟨b1, 0, none⟩), .pointer (some ⟨b2, 0, none⟩), .pointer (some ⟨b3, 0, none⟩)] W _
 rw [HP.out]
 clear HP
 generalize cs.any (fun c => RC.same x.x.c c.c) = rr at *
 by_cases ho : x.o = o
 ·have HO := BO (show (decide (x.o = o) && rr) = rr by simp [ho])
  rw [HO.out]
  go_enter Tryz.func140, Tryz.ntmps140
  go_upto_region 1 with fail
  rw [← sR.out]
  clear sR HO
  generalize W.heap.size = bx at *
  have x0 := (d5 tu.out).1
  rw [ho] at x0
  clear ho
  go_wp2_with (go_at_call 83; refine vS.out.mono ?_; rintro e1 w1 ⟨rfl, hk3⟩; have s8 := BO (sW.out.trans hk3 (fun _ h => h.elim)); clear hk3 vS x0 c0 d0)
  go_ret
  exact ⟨rfl, s8.out⟩
 ·have HO := BO (show (decide (x.o = o) && rr) = false by simp [ho])
  have hne : (x.o == o) = false := by simpa using ho
  rw [HO.out]
  go_enter Tryz.func140, Tryz.ntmps140
  go_upto_region 1 with fail
  rw [← sR.out]
  clear sR HO vS
  generalize W.heap.size = bx at *
  have x0 := (d5 tu.out).1
  clear ho
  go_wp2_with fail
  go_ret
  exact ⟨rfl, sW.out⟩
theorem Drop_C {B w : World} {D : PH} {l : List HP} {q : Nat} {Q : Qm Clm} (o : Int) (v : Value) (cs : List ClmE) (hg : RdP D 16 v cs.length (cs.flatMap ClmE.cells)) (hcs : ∀ c ∈ cs, ClOk D c) (hD : EnvD D) (hM : Q.held.length + Q.waits.length ≤ 1000) (h : Sat B D w (bP D q Q :: l)) :
  Calls Tryz.prog 95 #[.pointer (some ⟨q, 0, none⟩), .int .i64 o, v] w fun r w' => ∃ u, r = .returned u ∧ Sat B D w' (bP D q (a8 RC Q (bT o (cs.map ClmE.c))).1 :: cq u (a8 RC Q (bT o (cs.map ClmE.c))).2 :: l) := by
 obtain ⟨va, vc, rfl⟩ := hg.shape
 obtain ⟨W1, hW1, hs1⟩ := dJ h #[.pointer (some ⟨q, 0, none⟩)] #[.int .i64 o] #[.slice va cs.length vc] 74 3 45
 have sR := BO hW1
 have hs2 : Sat B D W1 (bP D q Q :: blk w.heap.size #[.pointer (some ⟨q, 0, none⟩)] 74 :: blk (w.heap.size + 1) #[.int .i64 o] 3 :: blk (w.heap.size + 1 + 1) #[.slice va cs.length vc] 45 :: l) := hs1.front 3 rfl
 have uD := BO (sO (F := 140) (caps := #[.pointer (some ⟨w.heap.size + 1, 0, none⟩), .pointer (some ⟨w.heap.size + 1 + 1, 0, none⟩), .pointer (some ⟨w.heap.size, 0, none⟩)]) (bT o (cs.map ClmE.c)) hD hM (enters_of Tryz.func140 (by kernel_rfl) rfl) (fun x hx hv wv ws W X hX => (dropF_C (hX.blk (X.length + 3) (by rw [jy]; rfl)) (hX.blk (X.length + 4) (by rw [jy]; rfl)) (hX.blk (X.length + 2) (by rw [jy]; rfl)) (hX.blk (X.length + 0) (by rw [jy]; rfl)) (hg.rd hX) (fun c hc => (hcs c hc).rd hX) x (hx.rd hX)).2 W (Kept.refl _ _)) hs2)
 have sX := BO hs2
 obtain ⟨hd0, _⟩ := aM (hs2.blk 1 rfl)
 clear h hs1 hs2 hW1 hD hcs hg
 go_enter Tryz.func95, Tryz.ntmps95
 go_upto_region 1 with fail
 rw [← sR.out]
 clear sR
 generalize w.heap.size + 1 + 1 = b3 at *
 generalize w.heap.size + 1 = b2 at *
 generalize w.heap.size = b1 at *
 go_wp2_with (go_at_call 111; refine uD.out.mono ?_; rintro e1 w1 ⟨v1, rfl, hs1⟩; have sS := BO hs1; clear hs1 uD)
 go_ret
 exact ⟨_, rfl, sS.out.rm2.rm2.rm2⟩
end Go.Proofs.YtgljdkjepdknnaaGreatDoor
