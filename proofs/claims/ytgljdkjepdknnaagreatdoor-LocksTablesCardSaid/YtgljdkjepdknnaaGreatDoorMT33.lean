/- Joined texts: The document's queue: leaving, dropping all (ratlineref10.Queue.Leave, Clear). (printed by genrqmv.py) The document's queue: dropping (ratlineref10.Queue.Drop). (printed by genrqdrop.py) What an owner holds, of the document's queue (ratlineref10.Queue.Holds). -/
import Derived.Test.YtgljdkjepdknnaaGreatDoorMT32
import Derived.Test.YtgljdkjepdknnaaGreatDoorMT15
set_option maxHeartbeats 64000000
namespace Go.Proofs.YtgljdkjepdknnaaGreatDoor
open Go.ChangeShapes Go.WideShapes Go.ChangeAt Go.RowKit
set_option maxRecDepth 100000
set_option linter.unusedSimpArgs false
theorem eU {B w : World} {D : PH} {l : List HP} {v : Value} {Q : Qm Clm} (o : Int) (hq : QueD D v Q) (hM : Q.held.length + Q.waits.length ≤ 1000) (s : Sat B D w l) :
  Calls Tryz.prog 98 #[v, .int .i64 o] w (ip B D l (bj RC Q o)) := by
 obtain ⟨i0, hi, hz0, hz1, hz2⟩ := info_parts gA
 have HI := BO (And.intro hi (And.intro hz0 (And.intro hz1 hz2)))
 obtain ⟨hv, wv, hs, ws, rfl, hH, hW, hhq, hwq⟩ := hq
 obtain ⟨ha, hcp, rfl⟩ := hH.1.shape
 obtain ⟨wa, wc, rfl⟩ := hW.1.shape
 obtain ⟨W1, hW1, hs1⟩ := cy s #[.slice ha hs.length hcp, .slice wa ws.length wc] nQ tRq tRq
 have sR := BO hW1
 have sS := BO (show Sat B D W1 (fY (.slice none 0 0) [] :: _) from hs1.own_nil tRe 18)
 have HH := BO hH
 have uN := BO hW
 have vp := BO hhq
 have vv := BO hwq
 have hhl : hs.length ≤ Q.held.length ∧ Q.held.length ≤ hs.length := by have := congrArg List.length hhq; rw [List.length_map] at this; omega
 have hwl : ws.length ≤ Q.waits.length ∧ Q.waits.length ≤ ws.length := by have := congrArg List.length hwq; rw [List.length_map] at this; omega
 have hxl : ws.length ≤ 1000 := by omega
 clear hs1 hW1 s hi hz0 hz1 hz2 hH hW hhq hwq
 go_enter Tryz.func98, Tryz.ntmps98
 go_upto_region 1 with fail
 rw [← sR.out]
 clear sR
 generalize w.heap.size + 1 = b2 at *
 generalize w.heap.size = b1 at *
 go_wp2_with fail
 go_loopw [6, 7] (fun ot ii wr => ∃ (j : Nat) (oa : Option Addr) (oc : Nat) (zs : List EntE), ii = .int .i64 j ∧ ot = .slice oa zs.length oc ∧ j ≤ ws.length ∧ zs = (ws.take j).filter (fun e => !ofE o (aG e)) ∧ Sat B D wr (fY (.slice oa zs.length oc) zs :: blk b1 #[.slice ha hs.length hcp, .slice wa ws.length wc] tRq :: blk b2 nQ tRq :: l)) (fun _ ii _ => ws.length - (intOf ii).toNat)
 case atStart => exact ⟨0, none, 0, [], rfl, rfl, by omega, rfl, sS.out⟩
 case round =>
  obtain ⟨j, oa, oc, zs, rfl, rfl, hj, hzs, hs2⟩ := hrel
  have hle : zs.length ≤ j := by rw [hzs]; exact Nat.le_trans (List.length_filter_le _ _) (by rw [List.length_take]; omega)
  have tY := BO hzs
  have sX := BO hs2
  obtain ⟨q0, q1, qf⟩ := aH (hs2.blk 1 rfl)
  clear hs2 hzs sS
  by_cases hlt : j < ws.length
  ·have hji : (j : Int) < (ws.length : Int) := by omega
   obtain ⟨x, hx⟩ : ∃ x, ws[j]? = some x := ⟨ws[j]'hlt, List.getElem?_eq_getElem _⟩
   obtain ⟨g, og, hg, hr, _, y0, _, _⟩ := eu (uN.out.rd sX.out) rfl hx
   subst hg
   have HL := BO (dW hr)
   have HX := BO hx
   by_cases ho : x.o = o
   ·have hne : (x.o != o) = false := by simpa using ho
    have HT := BO (aQ (q := fun e : EntE => !ofE o (aG e)) HX.out (by unfold ofE; simp [ho]))
    clear ho hx hr HL
    go_wp2_with fail
    go_roundw
    case rel => exact ⟨j + 1, oa, oc, zs, by go_num, rfl, by omega, by rw [HT.out]; exact tY.out, sX.out⟩
    case measure => simp [intOf]; omega
   ·have hne : (x.o != o) = true := by simpa using ho
    have HT := BO (aO (q := fun e : EntE => !ofE o (aG e)) HX.out (by unfold ofE; simp [ho]))
    have sV := BO ((sX.out.alloc (au x).toArray tRe).front 1 rfl)
    have s5 := BO (aT (size := 18) (n := 1) (sV.out.blk 1 rfl) (by simp [bM]) (by unfold maxLen; omega))
    clear ho hx hr sX
    go_wp2_with (first | (refine ag rfl _ _ rfl _ _ rfl _ HL.out ?_) | (refine aC rfl _ _ rfl tRe i0 _ (au x) rfl Tryz.underlying56 HI.out.1 HI.out.2.1 (HI.out.2.2.1.trans rfl) (by rw [bM]; decide) (by rw [bM]; decide) ?_) | (at_builtin; refine ar _ rfl _ _ d9 rfl tRe i0 _ 18 200 Tryz.underlying56 HI.out.1 HI.out.2.1 HI.out.2.2.1 HI.out.2.2.2 rfl _ zs.length _ rfl sV.out _ 1 _ rfl s5.out (by simpa using eA x) (by unfold maxLen; omega) (by omega) ?_; intro v11 w11 hs11 h11; obtain ⟨va, vc, rfl⟩ := hs11.own_shape; have s6 := BO hs11; clear hs11 h11 sV s5 HL y0 q0 q1 qf))
    go_roundw
    case rel =>
     refine ⟨j + 1, va, vc, zs ++ [x], by go_num, by rw [List.length_append]; rfl, by omega, by rw [HT.out, tY.out], ?_⟩
     show Sat B D w11 (aJ tRe 18 (.slice va (zs ++ [x]).length vc) (zs ++ [x]).length ((zs ++ [x]).flatMap au) :: _)
     rw [List.length_append, List.flatMap_append]
     have h9 := (s6.out.front 1 rfl).drop
     simpa using h9
    case measure => simp [intOf]; omega
  ·have hji : ¬ ((j : Int) < (ws.length : Int)) := by omega
   have HT := BO (show zs = ws.filter (fun e => !ofE o (aG e)) by rw [tY.out, List.take_of_length_le (by omega)])
   have sU := BO (Sat.set2b (sX.out.front 1 rfl) (.slice oa zs.length oc))
   go_upto_region 8 with fail
   obtain ⟨W8, hW8, hs8⟩ := Sat.hide sU.out
   rw [← hW8]
   clear hW8 sU sX q0 q1 qf
   obtain ⟨D2, hle2, hE2, hs9⟩ := cX (hs8.front 1 rfl) (fun e he => by rw [tY.out] at he; exact uN.out.2 e (List.mem_of_mem_take (List.mem_filter.1 he).1))
   have hmap : zs.map aG = Q.waits.filter (fun e => !ofE o e) := by rw [HT.out, ← vv.out, List.filter_map]; rfl
   have hfl := List.length_filter_le (fun e => !ofE o e) Q.waits
   have tL := BO (bi (ai (hs9.blk 0 rfl)))
   have ve := BO (g9 (Q := ⟨Q.held, Q.waits.filter (fun e => !ofE o e)⟩) (show QueD D2 (.agg #[.slice ha hs.length hcp, .slice oa zs.length oc]) _ from ⟨_, _, hs, zs, rfl, HH.out.mono hle2, hE2, vp.out, hmap⟩) (by show Q.held.length + (Q.waits.filter (fun e => !ofE o e)).length ≤ 1000; omega) hs9)
   have tr := BO hle2
   clear hs8 hs9 hE2 hle2 hmap
   go_wp2_with (first | (refine ag rfl _ _ rfl _ _ rfl _ tL.out ?_) | (go_at_call 143; refine ve.out.mono ?_; rintro e10 w10 ⟨v10, iv, D10, rfl, hle10, hq10, hs10⟩; have xx := BO hq10; obtain ⟨hv2, wv2, hs2, ws2, rfl, hH2, hW2, _, _⟩ := hq10; have vy := BO (show ∀ u ∈ [hv2, wv2], u.oneCell' = true from fun u hu => by simp at hu; rcases hu with rfl | rfl; exact hH2.1.oneV; exact hW2.1.oneV); have um := BO hle10; have s9 := BO (hs10.front 2 rfl); clear hs10 hle10 hH2 hW2 ve tL) | (refine aq rfl _ _ _ rfl tRq b2 rfl [hv2, wv2] rfl nQ s9.out (by kernel_rfl) rfl vy.out ?_; intro w20 hs20; have te := BO hs20; clear hs20 s9))
   refine bodyPost_ret (aL rfl _ _ rfl (bi (ai (te.out.blk 0 rfl)))) rfl ?_
   exact ⟨_, _, D10, rfl, tr.out.trans um.out, xx.out, te.out.drop.swap.drop⟩
theorem oH {B w : World} {D : PH} {l : List HP} {v : Value} {Q : Qm Clm} (o : Int) (hq : QueD D v Q) (hM : Q.held.length + Q.waits.length ≤ 1000) (s : Sat B D w l) :
  Calls Tryz.prog 99 #[v, .int .i64 o] w (ip B D l (a8 RC Q (ofE o))) := by
 obtain ⟨i0, hi, hz0, hz1, hz2⟩ := info_parts gA
 have HI := BO (And.intro hi (And.intro hz0 (And.intro hz1 hz2)))
 obtain ⟨hv, wv, hs, ws, rfl, hH, hW, hhq, hwq⟩ := hq
 obtain ⟨ha, hcp, rfl⟩ := hH.1.shape
 obtain ⟨wa, wc, rfl⟩ := hW.1.shape
 obtain ⟨W1, hW1, hs1⟩ := cy s #[.slice ha hs.length hcp, .slice wa ws.length wc] nQ tRq tRq
 have sR := BO hW1
 have sS := BO (show Sat B D W1 (fY (.slice none 0 0) [] :: _) from hs1.own_nil tRe 18)
 have HH := BO hH
 have uN := BO hW
 have vp := BO hhq
 have vv := BO hwq
 have hhl : hs.length ≤ Q.held.length ∧ Q.held.length ≤ hs.length := by have := congrArg List.length hhq; rw [List.length_map] at this; omega
 have hwl : ws.length ≤ Q.waits.length ∧ Q.waits.length ≤ ws.length := by have := congrArg List.length hwq; rw [List.length_map] at this; omega
 have hxl : hs.length ≤ 1000 := by omega
 clear hs1 hW1 s hi hz0 hz1 hz2 hH hW hhq hwq
 go_enter Tryz.func99, Tryz.ntmps99
 go_upto_region 1 with fail
 rw [← sR.out]
 clear sR
 generalize w.heap.size + 1 = b2 at *
 generalize w.heap.size = b1 at *
 go_wp2_with fail
 go_loopw [6, 7] (fun ot ii wr => ∃ (j : Nat) (oa : Option Addr) (oc : Nat) (zs : List EntE), ii = .int .i64 j ∧ ot = .slice oa zs.length oc ∧ j ≤ hs.length ∧ zs = (hs.take j).filter (fun e => !ofE o (aG e)) ∧ Sat B D wr (fY (.slice oa zs.length oc) zs :: blk b1 #[.slice ha hs.length hcp, .slice wa ws.length wc] tRq :: blk b2 nQ tRq :: l)) (fun _ ii _ => hs.length - (intOf ii).toNat)
 case atStart => exact ⟨0, none, 0, [], rfl, rfl, by omega, rfl, sS.out⟩
 case round =>
  obtain ⟨j, oa, oc, zs, rfl, rfl, hj, hzs, hs2⟩ := hrel
  have hle : zs.length ≤ j := by rw [hzs]; exact Nat.le_trans (List.length_filter_le _ _) (by rw [List.length_take]; omega)
  have tY := BO hzs
  have sX := BO hs2
  obtain ⟨q0, q1, qf⟩ := aH (hs2.blk 1 rfl)
  clear hs2 hzs sS
  by_cases hlt : j < hs.length
  ·have hji : (j : Int) < (hs.length : Int) := by omega
   obtain ⟨x, hx⟩ : ∃ x, hs[j]? = some x := ⟨hs[j]'hlt, List.getElem?_eq_getElem _⟩
   obtain ⟨g, og, hg, hr, _, y0, _, _⟩ := eu (HH.out.rd sX.out) rfl hx
   subst hg
   have HL := BO (dW hr)
   have HX := BO hx
   by_cases ho : x.o = o
   ·have hne : (x.o != o) = false := by simpa using ho
    have HT := BO (aQ (q := fun e : EntE => !ofE o (aG e)) HX.out (by unfold ofE; simp [ho]))
    clear ho hx hr HL
    go_wp2_with fail
    go_roundw
    case rel => exact ⟨j + 1, oa, oc, zs, by go_num, rfl, by omega, by rw [HT.out]; exact tY.out, sX.out⟩
    case measure => simp [intOf]; omega
   ·have hne : (x.o != o) = true := by simpa using ho
    have HT := BO (aO (q := fun e : EntE => !ofE o (aG e)) HX.out (by unfold ofE; simp [ho]))
    have sV := BO ((sX.out.alloc (au x).toArray tRe).front 1 rfl)
    have s5 := BO (aT (size := 18) (n := 1) (sV.out.blk 1 rfl) (by simp [bM]) (by unfold maxLen; omega))
    clear ho hx hr sX
    go_wp2_with (first | (refine ag rfl _ _ rfl _ _ rfl _ HL.out ?_) | (refine aC rfl _ _ rfl tRe i0 _ (au x) rfl Tryz.underlying56 HI.out.1 HI.out.2.1 (HI.out.2.2.1.trans rfl) (by rw [bM]; decide) (by rw [bM]; decide) ?_) | (at_builtin; refine ar _ rfl _ _ d9 rfl tRe i0 _ 18 200 Tryz.underlying56 HI.out.1 HI.out.2.1 HI.out.2.2.1 HI.out.2.2.2 rfl _ zs.length _ rfl sV.out _ 1 _ rfl s5.out (by simpa using eA x) (by unfold maxLen; omega) (by omega) ?_; intro v11 w11 hs11 h11; obtain ⟨va, vc, rfl⟩ := hs11.own_shape; have s6 := BO hs11; clear hs11 h11 sV s5 HL y0 q0 q1 qf))
    go_roundw
    case rel =>
     refine ⟨j + 1, va, vc, zs ++ [x], by go_num, by rw [List.length_append]; rfl, by omega, by rw [HT.out, tY.out], ?_⟩
     show Sat B D w11 (aJ tRe 18 (.slice va (zs ++ [x]).length vc) (zs ++ [x]).length ((zs ++ [x]).flatMap au) :: _)
     rw [List.length_append, List.flatMap_append]
     have h9 := (s6.out.front 1 rfl).drop
     simpa using h9
    case measure => simp [intOf]; omega
  ·have hji : ¬ ((j : Int) < (hs.length : Int)) := by omega
   have HT := BO (show zs = hs.filter (fun e => !ofE o (aG e)) by rw [tY.out, List.take_of_length_le (by omega)])
   have sU := BO (Sat.set2a (sX.out.front 1 rfl) (.slice oa zs.length oc))
   go_upto_region 8 with fail
   obtain ⟨W8, hW8, hs8⟩ := Sat.hide sU.out
   rw [← hW8]
   clear hW8 sU sX q0 q1 qf
   obtain ⟨D2, hle2, hE2, hs9⟩ := cX (hs8.front 1 rfl) (fun e he => by rw [tY.out] at he; exact HH.out.2 e (List.mem_of_mem_take (List.mem_filter.1 he).1))
   have hmap : zs.map aG = Q.held.filter (fun e => !ofE o e) := by rw [HT.out, ← vp.out, List.filter_map]; rfl
   have hfl := List.length_filter_le (fun e => !ofE o e) Q.held
   have tL := BO (bi (ai (hs9.blk 0 rfl)))
   have ve := BO (g9 (Q := ⟨Q.held.filter (fun e => !ofE o e), Q.waits⟩) (show QueD D2 (.agg #[.slice oa zs.length oc, .slice wa ws.length wc]) _ from ⟨_, _, zs, ws, rfl, hE2, uN.out.mono hle2, hmap, vv.out⟩) (by show (Q.held.filter (fun e => !ofE o e)).length + Q.waits.length ≤ 1000; omega) hs9)
   have tr := BO hle2
   clear hs8 hs9 hE2 hle2 hmap
   go_wp2_with (first | (refine ag rfl _ _ rfl _ _ rfl _ tL.out ?_) | (go_at_call 143; refine ve.out.mono ?_; rintro e10 w10 ⟨v10, iv, D10, rfl, hle10, hq10, hs10⟩; have xx := BO hq10; obtain ⟨hv2, wv2, hs2, ws2, rfl, hH2, hW2, _, _⟩ := hq10; have vy := BO (show ∀ u ∈ [hv2, wv2], u.oneCell' = true from fun u hu => by simp at hu; rcases hu with rfl | rfl; exact hH2.1.oneV; exact hW2.1.oneV); have um := BO hle10; have s9 := BO (hs10.front 2 rfl); clear hs10 hle10 hH2 hW2 ve tL) | (refine aq rfl _ _ _ rfl tRq b2 rfl [hv2, wv2] rfl nQ s9.out (by kernel_rfl) rfl vy.out ?_; intro w20 hs20; have te := BO hs20; clear hs20 s9))
   refine bodyPost_ret (aL rfl _ _ rfl (bi (ai (te.out.blk 0 rfl)))) rfl ?_
   exact ⟨_, _, D10, rfl, tr.out.trans um.out, xx.out, te.out.drop.swap.drop⟩
def ClmsD (D : PH) (v : Value) (cs : List ClmE) : Prop := RdP D 16 v cs.length (cs.flatMap ClmE.cells) ∧ ∀ c ∈ cs, ClOk D c
theorem ClmsD.mono {D D' : PH} {v : Value} {cs : List ClmE} (h : ClmsD D v cs) (le : PH.le D D') : ClmsD D' v cs := ⟨h.1.mono le, fun c hc => (h.2 c hc).mono le⟩
theorem clmAt {B w : World} {D : PH} {l : List HP} {ao : Option Addr} {N cap j : Nat} {cs : List ClmE} {c : ClmE} (h : ClmsD D (.slice ao N cap) cs) (s : Sat B D w l) (hl : cs.length = N) (hc : cs[j]? = some c) :
  ∃ g o, ao = some ⟨g, o, none⟩ ∧ w.rangeAt g (o + j * 16) c.cells ∧ ClOk D c := by
 obtain ⟨g, o, hg, hr⟩ := aD ClmE.len (by have := h.1.rd s; rw [hl] at this; exact this) hc hl
 exact ⟨g, o, hg, hr, h.2 c (List.mem_of_getElem? hc)⟩
theorem lB {B w : World} {D : PH} {l : List HP} {v gv : Value} {Q : Qm Clm} {cs : List ClmE} (o : Int) (hq : QueD D v Q) (hg : ClmsD D gv cs) (hM : Q.held.length + Q.waits.length ≤ 1000) (s : Sat B D w l) :
  Calls Tryz.prog 103 #[v, .int .i64 o, gv] w (ip B D l (a8 RC Q (bT o (cs.map ClmE.c)))) := by
 obtain ⟨i0, hi, hz0, hz1, hz2⟩ := info_parts gA
 have HI := BO (And.intro hi (And.intro hz0 (And.intro hz1 hz2)))
 obtain ⟨hv, wv, hs, ws, rfl, hH, hW, hhq, hwq⟩ := hq
 obtain ⟨ha, hcp, rfl⟩ := hH.1.shape
 obtain ⟨wa, wc, rfl⟩ := hW.1.shape
 obtain ⟨ga, gc, rfl⟩ := hg.1.shape
 have hgl := hg.1.len
 obtain ⟨W1, hW1, hs1⟩ := cy s #[.slice ha hs.length hcp, .slice wa ws.length wc] nQ tRq tRq
 have sR := BO hW1
 have sS := BO (show Sat B D W1 (fY (.slice none 0 0) [] :: _) from hs1.own_nil tRe 18)
 have HH := BO hH
 have uN := BO hW
 have vp := BO hhq
 have vv := BO hwq
 have HG := BO hg
 have hhl : hs.length ≤ Q.held.length ∧ Q.held.length ≤ hs.length := by have := congrArg List.length hhq; rw [List.length_map] at this; omega
 have hwl : ws.length ≤ Q.waits.length ∧ Q.waits.length ≤ ws.length := by have := congrArg List.length hwq; rw [List.length_map] at this; omega
 have hxl : hs.length ≤ 1000 := by omega
 clear hs1 hW1 s hi hz0 hz1 hz2 hH hW hhq hwq hg
 go_enter Tryz.func103, Tryz.ntmps103
 go_upto_region 1 with fail
 rw [← sR.out]
 clear sR
 generalize w.heap.size + 1 = b2 at *
 generalize w.heap.size = b1 at *
 go_wp2_with fail
 go_loopw [8, 9] (fun ot ii wr => ∃ (j : Nat) (oa : Option Addr) (oc : Nat) (zs : List EntE), ii = .int .i64 j ∧ ot = .slice oa zs.length oc ∧ j ≤ hs.length ∧ zs = (hs.take j).filter (fun e => !bT o (cs.map ClmE.c) (aG e)) ∧ Sat B D wr (fY (.slice oa zs.length oc) zs :: blk b1 #[.slice ha hs.length hcp, .slice wa ws.length wc] tRq :: blk b2 nQ tRq :: l)) (fun _ ii _ => hs.length - (intOf ii).toNat)
 case atStart => exact ⟨0, none, 0, [], rfl, rfl, by omega, rfl, sS.out⟩
 case round =>
  obtain ⟨j, oa, oc, zs, rfl, rfl, hj, hzs, hs2⟩ := hrel
  have hle : zs.length ≤ j := by rw [hzs]; exact Nat.le_trans (List.length_filter_le _ _) (by rw [List.length_take]; omega)
  have tY := BO hzs
  have sX := BO hs2
  obtain ⟨q0, q1, qf⟩ := aH (hs2.blk 1 rfl)
  clear hs2 hzs sS
  by_cases hlt : j < hs.length
  ·have hji : (j : Int) < (hs.length : Int) := by omega
   obtain ⟨x, hx⟩ : ∃ x, hs[j]? = some x := ⟨hs[j]'hlt, List.getElem?_eq_getElem _⟩
   have zV := BO (show bT o (cs.map ClmE.c) (aG x) = (decide (x.o = o) && cs.any (fun c => RC.same x.x.c c.c)) by unfold bT; rw [List.any_map]; rfl)
   have HX := BO hx
   clear hx
   by_cases ho : x.o = o
   ·have hne : (x.o == o) = true := by simpa using ho
    rw [decide_eq_true ho] at zV
    clear ho
    go_wp2_with fail
    clear q0 q1 qf
    go_loopw [10, 11] (fun st ii wr2 => ∃ (k : Nat) (b : Bool), ii = .int .i64 k ∧ st = .bool b ∧ k ≤ cs.length ∧ b = !((cs.take k).any (fun c => RC.same x.x.c c.c)) ∧ Sat B D wr2 (fY (.slice oa zs.length oc) zs :: blk b1 #[.slice ha hs.length hcp, .slice wa ws.length wc] tRq :: blk b2 nQ tRq :: l)) (fun _ ii _ => cs.length - (intOf ii).toNat)
    case atStart => exact ⟨0, true, rfl, rfl, Nat.zero_le _, rfl, sX.out⟩
    case round =>
     obtain ⟨k, b, rfl, rfl, hk, hb, hs3⟩ := hrel
     have HB := BO hb
     have sU := BO hs3
     obtain ⟨q0, q1, qf⟩ := aH (hs3.blk 1 rfl)
     clear hb hs3 sX
     by_cases hkc : k < cs.length
     ·have hki : (k : Int) < (cs.length : Int) := by omega
      obtain ⟨c, hc⟩ : ∃ c, cs[k]? = some c := ⟨cs[k]'hkc, List.getElem?_eq_getElem _⟩
      have HC := BO hc
      obtain ⟨g4, og4, hg4, _, hr2, y0, hre, _⟩ := eu (HH.out.rd sU.out) rfl HX.out
      cases hg4
      obtain ⟨gg, gog, hgg, hgr, hok⟩ := clmAt HG.out sU.out rfl hc
      subst hgg
      have th := BO (ay (w := wr.drew) hr2)
      have tg := BO (ay (w := wr.drew) hgr)
      have t8 := BO (el (w := wr.drew) hre.drew (hok.rd sU.out.drew))
      obtain ⟨sm, hsm⟩ : ∃ sm, RC.same x.x.c c.c = sm := ⟨_, rfl⟩
      rw [hsm] at t8
      have zW := BO hsm
      clear hc hr2 hre hgr hok hsm
      go_upto_region 9 with fail
      refine af [(0, false, 10), (1, false, 10), (2, false, 10), (3, false, 10), (4, false, 10), (5, false, 10), (6, false, 10), (7, false, 10), (8, false, 10), (9, false, 10), (10, true, 0), (11, false, 999)] (by kernel_rfl) (by kernel_rfl) ?_
      iterate 10 (refine ae rfl rfl (fun K hK => ?_); (first | ((refine aj _ _ rfl _ _ rfl _ th.out ?_); go_simp) | ((refine aj _ _ rfl _ _ rfl _ tg.out ?_); go_simp) | go_simp); refine hK _ ?_; clear hK K)
      refine al rfl ?_
      refine aw rfl (fun K hK => ?_)
      go_simp
      refine t8.out.mono ?_
      rintro e6 w6 ⟨rfl, hk6⟩
      have s0 := BO (sU.out.drew.kept hk6)
      clear hk6 t8 th tg sU q0 q1 qf y0
      refine hK _ _ ?_
      clear hK K
      refine wpList_nil ?_
      refine And.intro ?_ ?_
      ·go_simp
      refine ae rfl rfl (fun K hK => ?_); (first | ((refine aj _ _ rfl _ _ rfl _ th.out ?_); go_simp) | ((refine aj _ _ rfl _ _ rfl _ tg.out ?_); go_simp) | go_simp); refine hK _ ?_; clear hK K
      refine ap ?_
      have HN := BO (show (b && !sm) = !((cs.take (k + 1)).any (fun c => RC.same x.x.c c.c)) by rw [dm _ HC.out, Bool.not_or, ← HB.out, zW.out])
      cases b <;> cases sm
      all_goals
       go_wp2_with fail
       go_roundw
       case rel => exact ⟨k + 1, _, by go_num, rfl, by omega, HN.out, s0.out⟩
       case measure => simp [intOf]; omega
     ·have hki : ¬ ((k : Int) < (cs.length : Int)) := by omega
      have ve := BO (show bT o (cs.map ClmE.c) (aG x) = !b by rw [zV.out, HB.out, List.take_of_length_le (by omega), Bool.not_not]; rfl)
      clear q0 q1 qf
      cases b
      ·skip
       have HT := BO (aQ (q := fun e : EntE => !bT o (cs.map ClmE.c) (aG e)) HX.out (by rw [ve.out]; rfl))
       go_wp2_with fail
       go_roundw
       case rel => exact ⟨j + 1, oa, oc, zs, by go_num, rfl, by omega, by rw [HT.out]; exact tY.out, sU.out⟩
       case measure => simp [intOf]; omega
      ·go_upto_region 11 with fail
       have HT := BO (aO (q := fun e : EntE => !bT o (cs.map ClmE.c) (aG e)) HX.out (by rw [ve.out]; rfl))
       obtain ⟨q0, q1, qf⟩ := aH (sU.out.blk 1 rfl)
       obtain ⟨g5, og5, hg5, hr, _, y0, _, _⟩ := eu (HH.out.rd sU.out) rfl HX.out
       cases hg5
       have HL := BO (dW hr)
       have sV := BO ((sU.out.alloc (au x).toArray tRe).front 1 rfl)
       have s5 := BO (aT (size := 18) (n := 1) (sV.out.blk 1 rfl) (by simp [bM]) (by unfold maxLen; omega))
       clear hr sU
       go_wp2_with (first | (refine ag rfl _ _ rfl _ _ rfl _ HL.out ?_) | (refine aC rfl _ _ rfl tRe i0 _ (au x) rfl Tryz.underlying56 HI.out.1 HI.out.2.1 (HI.out.2.2.1.trans rfl) (by rw [bM]; decide) (by rw [bM]; decide) ?_) | (at_builtin; refine ar _ rfl _ _ d9 rfl tRe i0 _ 18 200 Tryz.underlying56 HI.out.1 HI.out.2.1 HI.out.2.2.1 HI.out.2.2.2 rfl _ zs.length _ rfl sV.out _ 1 _ rfl s5.out (by simpa using eA x) (by unfold maxLen; omega) (by omega) ?_; intro v11 w11 hs11 h11; obtain ⟨va, vc, rfl⟩ := hs11.own_shape; have s6 := BO hs11; clear hs11 h11 sV s5 HL y0 q0 q1 qf))
       go_roundw
       case rel =>
        refine ⟨j + 1, va, vc, zs ++ [x], by go_num, by rw [List.length_append]; rfl, by omega, by rw [HT.out, tY.out], ?_⟩
        show Sat B D w11 (aJ tRe 18 (.slice va (zs ++ [x]).length vc) (zs ++ [x]).length ((zs ++ [x]).flatMap au) :: _)
        rw [List.length_append, List.flatMap_append]
        have h9 := (s6.out.front 1 rfl).drop
        simpa using h9
       case measure => simp [intOf]; omega
   ·have hne : (x.o == o) = false := by simpa using ho
    rw [decide_eq_false ho] at zV
    have ve := BO (show bT o (cs.map ClmE.c) (aG x) = false by rw [zV.out]; rfl)
    clear ho
    go_wp2_with fail
    clear q0 q1 qf
    go_loopw [10, 11] (fun st ii wr2 => ii = .int .i64 0 ∧ st = .bool true ∧ Sat B D wr2 (fY (.slice oa zs.length oc) zs :: blk b1 #[.slice ha hs.length hcp, .slice wa ws.length wc] tRq :: blk b2 nQ tRq :: l)) (fun _ ii _ => 0)
    case atStart => exact ⟨rfl, rfl, sX.out⟩
    case round =>
     obtain ⟨rfl, rfl, hs3⟩ := hrel
     have sU := BO hs3
     clear hs3 sX
     by_cases hkc : 0 < cs.length
     ·have hki : (0 : Int) < (cs.length : Int) := by omega
      obtain ⟨q0, q1, qf⟩ := aH (sU.out.blk 1 rfl)
      obtain ⟨g4, og4, hg4, _, _, y0, _, _⟩ := eu (HH.out.rd sU.out) rfl HX.out
      cases hg4
      go_upto_region 11 with fail
      clear q0 q1 qf y0
      have HT := BO (aO (q := fun e : EntE => !bT o (cs.map ClmE.c) (aG e)) HX.out (by rw [ve.out]; rfl))
      obtain ⟨q0, q1, qf⟩ := aH (sU.out.blk 1 rfl)
      obtain ⟨g5, og5, hg5, hr, _, y0, _, _⟩ := eu (HH.out.rd sU.out) rfl HX.out
      cases hg5
      have HL := BO (dW hr)
      have sV := BO ((sU.out.alloc (au x).toArray tRe).front 1 rfl)
      have s5 := BO (aT (size := 18) (n := 1) (sV.out.blk 1 rfl) (by simp [bM]) (by unfold maxLen; omega))
      clear hr sU
      go_wp2_with (first | (refine ag rfl _ _ rfl _ _ rfl _ HL.out ?_) | (refine aC rfl _ _ rfl tRe i0 _ (au x) rfl Tryz.underlying56 HI.out.1 HI.out.2.1 (HI.out.2.2.1.trans rfl) (by rw [bM]; decide) (by rw [bM]; decide) ?_) | (at_builtin; refine ar _ rfl _ _ d9 rfl tRe i0 _ 18 200 Tryz.underlying56 HI.out.1 HI.out.2.1 HI.out.2.2.1 HI.out.2.2.2 rfl _ zs.length _ rfl sV.out _ 1 _ rfl s5.out (by simpa using eA x) (by unfold maxLen; omega) (by omega) ?_; intro v11 w11 hs11 h11; obtain ⟨va, vc, rfl⟩ := hs11.own_shape; have s6 := BO hs11; clear hs11 h11 sV s5 HL y0 q0 q1 qf))
      go_roundw
      case rel =>
       refine ⟨j + 1, va, vc, zs ++ [x], by go_num, by rw [List.length_append]; rfl, by omega, by rw [HT.out, tY.out], ?_⟩
       show Sat B D w11 (aJ tRe 18 (.slice va (zs ++ [x]).length vc) (zs ++ [x]).length ((zs ++ [x]).flatMap au) :: _)
       rw [List.length_append, List.flatMap_append]
       have h9 := (s6.out.front 1 rfl).drop
       simpa using h9
      case measure => simp [intOf]; omega
     ·have hki : ¬ ((0 : Int) < (cs.length : Int)) := by omega
      go_upto_region 11 with fail
      have HT := BO (aO (q := fun e : EntE => !bT o (cs.map ClmE.c) (aG e)) HX.out (by rw [ve.out]; rfl))
      obtain ⟨q0, q1, qf⟩ := aH (sU.out.blk 1 rfl)
      obtain ⟨g5, og5, hg5, hr, _, y0, _, _⟩ := eu (HH.out.rd sU.out) rfl HX.out
      cases hg5
      have HL := BO (dW hr)
      have sV := BO ((sU.out.alloc (au x).toArray tRe).front 1 rfl)
      have s5 := BO (aT (size := 18) (n := 1) (sV.out.blk 1 rfl) (by simp [bM]) (by unfold maxLen; omega))
      clear hr sU
      go_wp2_with (first | (refine ag rfl _ _ rfl _ _ rfl _ HL.out ?_) | (refine aC rfl _ _ rfl tRe i0 _ (au x) rfl Tryz.underlying56 HI.out.1 HI.out.2.1 (HI.out.2.2.1.trans rfl) (by rw [bM]; decide) (by rw [bM]; decide) ?_) | (at_builtin; refine ar _ rfl _ _ d9 rfl tRe i0 _ 18 200 Tryz.underlying56 HI.out.1 HI.out.2.1 HI.out.2.2.1 HI.out.2.2.2 rfl _ zs.length _ rfl sV.out _ 1 _ rfl s5.out (by simpa using eA x) (by unfold maxLen; omega) (by omega) ?_; intro v11 w11 hs11 h11; obtain ⟨va, vc, rfl⟩ := hs11.own_shape; have s6 := BO hs11; clear hs11 h11 sV s5 HL y0 q0 q1 qf))
      go_roundw
      case rel =>
       refine ⟨j + 1, va, vc, zs ++ [x], by go_num, by rw [List.length_append]; rfl, by omega, by rw [HT.out, tY.out], ?_⟩
       show Sat B D w11 (aJ tRe 18 (.slice va (zs ++ [x]).length vc) (zs ++ [x]).length ((zs ++ [x]).flatMap au) :: _)
       rw [List.length_append, List.flatMap_append]
       have h9 := (s6.out.front 1 rfl).drop
       simpa using h9
      case measure => simp [intOf]; omega
  ·have hji : ¬ ((j : Int) < (hs.length : Int)) := by omega
   have HT := BO (show zs = hs.filter (fun e => !bT o (cs.map ClmE.c) (aG e)) by rw [tY.out, List.take_of_length_le (by omega)])
   have sU := BO (Sat.set2a (sX.out.front 1 rfl) (.slice oa zs.length oc))
   go_upto_region 14 with fail
   obtain ⟨W8, hW8, hs8⟩ := Sat.hide sU.out
   rw [← hW8]
   clear hW8 sU sX q0 q1 qf
   obtain ⟨D2, hle2, hE2, hs9⟩ := cX (hs8.front 1 rfl) (fun e he => by rw [tY.out] at he; exact HH.out.2 e (List.mem_of_mem_take (List.mem_filter.1 he).1))
   have hmap : zs.map aG = Q.held.filter (fun e => !bT o (cs.map ClmE.c) e) := by rw [HT.out, ← vp.out, List.filter_map]; rfl
   have hfl := List.length_filter_le (fun e => !bT o (cs.map ClmE.c) e) Q.held
   have tL := BO (bi (ai (hs9.blk 0 rfl)))
   have ve := BO (g9 (Q := ⟨Q.held.filter (fun e => !bT o (cs.map ClmE.c) e), Q.waits⟩) (show QueD D2 (.agg #[.slice oa zs.length oc, .slice wa ws.length wc]) _ from ⟨_, _, zs, ws, rfl, hE2, uN.out.mono hle2, hmap, vv.out⟩) (by show (Q.held.filter (fun e => !bT o (cs.map ClmE.c) e)).length + Q.waits.length ≤ 1000; omega) hs9)
   have tr := BO hle2
   clear hs8 hs9 hE2 hle2 hmap
   go_wp2_with (first | (refine ag rfl _ _ rfl _ _ rfl _ tL.out ?_) | (go_at_call 143; refine ve.out.mono ?_; rintro e10 w10 ⟨v10, iv, D10, rfl, hle10, hq10, hs10⟩; have xx := BO hq10; obtain ⟨hv2, wv2, hs2, ws2, rfl, hH2, hW2, _, _⟩ := hq10; have vy := BO (show ∀ u ∈ [hv2, wv2], u.oneCell' = true from fun u hu => by simp at hu; rcases hu with rfl | rfl; exact hH2.1.oneV; exact hW2.1.oneV); have um := BO hle10; have s9 := BO (hs10.front 2 rfl); clear hs10 hle10 hH2 hW2 ve tL) | (refine aq rfl _ _ _ rfl tRq b2 rfl [hv2, wv2] rfl nQ s9.out (by kernel_rfl) rfl vy.out ?_; intro w20 hs20; have te := BO hs20; clear hs20 s9))
   refine bodyPost_ret (aL rfl _ _ rfl (bi (ai (te.out.blk 0 rfl)))) rfl ?_
   exact ⟨_, _, D10, rfl, tr.out.trans um.out, xx.out, te.out.drop.swap.drop⟩
abbrev tCs : TypeId := 45
theorem iK {B w : World} {D : PH} {l : List HP} {v : Value} {cs : List ClmE} (h : Sat B D w (dI v cs :: l)) (hz : ∀ c ∈ cs, ClOk D c) : ∃ D', PH.le D D' ∧ ClmsD D' v cs ∧ Sat B D' w l := by
 obtain ⟨D', hle, hrd, hs⟩ := h.own_give
 exact ⟨D', hle, ⟨hrd, fun e he => (hz e he).mono hle⟩, hs⟩
def ClmsGot (B : World) (D : PH) (l : List HP) (L : List Clm) (r : Ending) (w' : World) : Prop := ∃ (v : Value) (cs : List ClmE) (D' : PH), r = .returned v ∧ PH.le D D' ∧ ClmsD D' v cs ∧ cs.map ClmE.c = L ∧ Sat B D' w' l
theorem gZ {B w : World} {D : PH} {l : List HP} {v : Value} {Q : Qm Clm} (o : Int) (hq : QueD D v Q) (hM : Q.held.length ≤ 1000) (s : Sat B D w l) :
  Calls Tryz.prog 34 #[v, .int .i64 o] w (ClmsGot B D l (aE Q o)) := by
 obtain ⟨i0, hi, hz0, hz1, hz2⟩ := info_parts kz
 have HI := BO (And.intro hi (And.intro hz0 (And.intro hz1 hz2)))
 obtain ⟨hv, wv, hs, ws, rfl, hH, hW, hhq, hwq⟩ := hq
 obtain ⟨ha, hcp, rfl⟩ := hH.1.shape
 obtain ⟨W1, hW1, hs1⟩ := Sat.hide (s.alloc #[.slice ha hs.length hcp, wv] tRq)
 have sR := BO hW1
 have sS := BO (show Sat B D W1 (dI (.slice none 0 0) [] :: _) from hs1.own_nil tCl 16)
 have HH := BO hH
 have vp := BO hhq
 have hxl : hs.length ≤ 1000 := by rw [← List.length_map (f := aG), hhq]; exact hM
 clear hs1 hW1 s hi hz0 hz1 hz2 hH hW hhq hwq
 go_enter Tryz.func34, Tryz.ntmps34
 go_upto_region 1 with fail
 rw [← sR.out]
 clear sR
 generalize w.heap.size = b1 at *
 go_wp2_with fail
 go_loopw [5, 6] (fun ot ii wr => ∃ (j : Nat) (oa : Option Addr) (oc : Nat), ii = .int .i64 j ∧ ot = .slice oa (bV hs o j).length oc ∧ j ≤ hs.length ∧ Sat B D wr (dI (.slice oa (bV hs o j).length oc) (bV hs o j) :: blk b1 #[.slice ha hs.length hcp, wv] tRq :: l)) (fun _ ii _ => hs.length - (intOf ii).toNat)
 case atStart => exact ⟨0, none, 0, rfl, rfl, by omega, sS.out⟩
 case round =>
  obtain ⟨j, oa, oc, rfl, rfl, hj, hs2⟩ := hrel
  have hle := kk hs o j
  have sX := BO hs2
  obtain ⟨q0, q1, qf⟩ := aH (hs2.blk 1 rfl)
  clear hs2 sS
  by_cases hlt : j < hs.length
  ·have hji : (j : Int) < (hs.length : Int) := by omega
   obtain ⟨x, hx⟩ : ∃ x, hs[j]? = some x := ⟨hs[j]'hlt, List.getElem?_eq_getElem _⟩
   obtain ⟨g, og, hg, _, hr2, y0, _, _⟩ := eu (HH.out.rd sX.out) rfl hx
   subst hg
   have HL := BO (ay hr2)
   by_cases ho : x.o = o
   ·have hne : (x.o == o) = true := by simpa using ho
    have HT := BO (jk hx ho)
    generalize hcs : bV hs o j = cs at *
    have sV := BO ((sX.out.alloc x.x.cells.toArray tCl).front 1 rfl)
    have s5 := BO (aT (size := 16) (n := 1) (sV.out.blk 1 rfl) rfl (by unfold maxLen; omega))
    clear ho hx hr2 sX hcs
    go_wp2_with (first | (refine ag rfl _ _ rfl _ _ rfl _ HL.out ?_) | (refine aC rfl _ _ rfl tCl i0 _ x.x.cells rfl Tryz.underlying45 HI.out.1 HI.out.2.1 (HI.out.2.2.1.trans rfl) (by rw [ClmE.len]; decide) (by rw [ClmE.len]; decide) ?_) | (at_builtin; refine ar _ rfl _ _ tCs rfl tCl i0 _ 16 184 Tryz.underlying45 HI.out.1 HI.out.2.1 HI.out.2.2.1 HI.out.2.2.2 rfl _ cs.length _ rfl sV.out _ 1 _ rfl s5.out (by simpa using ClmE.one x.x) (by unfold maxLen; omega) (by omega) ?_; intro v11 w11 hs11 h11; obtain ⟨va, vc, rfl⟩ := hs11.own_shape; have s6 := BO hs11; clear hs11 h11 sV s5 HL y0 q0 q1 qf))
    go_roundw
    case rel =>
     refine ⟨j + 1, va, vc, by go_num, by rw [HT.out, List.length_append]; rfl, by omega, ?_⟩
     rw [HT.out]
     show Sat B D w11 (aJ tCl 16 (.slice va (cs ++ [x.x]).length vc) (cs ++ [x.x]).length ((cs ++ [x.x]).flatMap ClmE.cells) :: _)
     rw [List.length_append, List.flatMap_append]
     have h9 := (s6.out.front 1 rfl).drop
     simpa using h9
    case measure => simp [intOf]; omega
   ·have hne : (x.o == o) = false := by simpa using ho
    have HT := BO (kC hx ho)
    clear ho hx hr2 HL
    go_wp2_with fail
    go_roundw
    case rel => exact ⟨j + 1, oa, oc, by go_num, by rw [HT.out], by omega, by rw [HT.out]; exact sX.out⟩
    case measure => simp [intOf]; omega
  ·have hji : ¬ ((j : Int) < (hs.length : Int)) := by omega
   obtain rfl : j = hs.length := by omega
   have HT := BO (jr o vp.out)
   go_wp2_with fail
   go_ret
   obtain ⟨D', hle', he, hs9⟩ := iK sX.out (fun y hy => by
    unfold bV at hy
    obtain ⟨e, he, rfl⟩ := List.mem_map.1 hy
    exact (HH.out.2 e (List.mem_of_mem_take (List.mem_filter.1 he).1)).1)
   exact ⟨_, _, D', rfl, hle', he, HT.out, hs9.drop⟩
end Go.Proofs.YtgljdkjepdknnaaGreatDoor
