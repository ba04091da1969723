/- Joined texts: The document's queue: leaving, dropping all (ratlineref10.Queue.Leave, Clear). (printed by genrqmv.py) The document's queue: dropping (ratlineref10.Queue.Drop). (printed by genrqdrop.py) What an owner holds, of the document's queue (ratlineref10.Queue.Holds). -/
import Derived.Test.YtgljdkjepdknnaaGreatDoorMR38
import Derived.Test.YtgljdkjepdknnaaGreatDoorMR17
/- The document's queue: leaving, dropping all (ratlineref10.Queue.Leave, Clear). (printed by genrqmv.py) -/
namespace Go.Proofs.YtgljdkjepdknnaaGreatDoor
open Go.ChangeShapes Go.WideShapes Go.ChangeAt Go.RowKit
set_option maxRecDepth 100000
set_option linter.unusedSimpArgs false

set_option maxHeartbeats 8000000 in
theorem rqLeave_ok {B w : World} {D : PH} {l : List HP} {v : Value} {Q : Qm Clm} (o : Int) (hq : QueD D v Q) (hM : Q.held.length + Q.waits.length ≤ 1000) (s : Sat B D w l) :
  Calls Tryz.prog 98 #[v, .int .i64 o] w (GivenGot B D l (leaveQ RC Q o)) := by
 obtain ⟨i0, hi, hz0, hz1, hz2⟩ := info_parts infoRe
 have HI := Lib.hid (And.intro hi (And.intro hz0 (And.intro hz1 hz2)))
 obtain ⟨hv, wv, hs, ws, rfl, hH, hW, hhq, hwq⟩ := hq
 obtain ⟨ha, hcp, rfl⟩ := hH.1.shape
 obtain ⟨wa, wc, rfl⟩ := hW.1.shape
 obtain ⟨W1, hW1, hs1⟩ := two_new s #[.slice ha hs.length hcp, .slice wa ws.length wc] nQ tRq tRq
 have HW1 := Lib.hid hW1
 have HS1 := Lib.hid (show Sat B D W1 (entsR (.slice none 0 0) [] :: _) from hs1.own_nil tRe 18)
 have HH := Lib.hid hH
 have HWD := Lib.hid hW
 have HHQ := Lib.hid hhq
 have HWQ := Lib.hid hwq
 have hhl : hs.length ≤ Q.held.length ∧ Q.held.length ≤ hs.length := by have := congrArg List.length hhq; rw [List.length_map] at this; omega
 have hwl : ws.length ≤ Q.waits.length ∧ Q.waits.length ≤ ws.length := by have := congrArg List.length hwq; rw [List.length_map] at this; omega
 have hxl : ws.length ≤ 1000 := by omega
 clear hs1 hW1 s hi hz0 hz1 hz2 hH hW hhq hwq
 go_enter Tryz.func98, Tryz.ntmps98
 go_upto_region 1 with fail
 rw [← HW1.out]
 clear HW1
 generalize w.heap.size + 1 = b2 at *
 generalize w.heap.size = b1 at *
 go_wp2_with fail
 go_loopw [6, 7] (fun ot ii wr => ∃ (j : Nat) (oa : Option Addr) (oc : Nat) (zs : List EntE), ii = .int .i64 j ∧ ot = .slice oa zs.length oc ∧ j ≤ ws.length ∧ zs = (ws.take j).filter (fun e => !ofE o (entC e)) ∧ Sat B D wr (entsR (.slice oa zs.length oc) zs :: blk b1 #[.slice ha hs.length hcp, .slice wa ws.length wc] tRq :: blk b2 nQ tRq :: l)) (fun _ ii _ => ws.length - (intOf ii).toNat)
 case atStart => exact ⟨0, none, 0, [], rfl, rfl, by omega, rfl, HS1.out⟩
 case round =>
  obtain ⟨j, oa, oc, zs, rfl, rfl, hj, hzs, hs2⟩ := hrel
  have hle : zs.length ≤ j := by rw [hzs]; exact Nat.le_trans (List.length_filter_le _ _) (by rw [List.length_take]; omega)
  have HZS := Lib.hid hzs
  have HS2 := Lib.hid hs2
  obtain ⟨q0, q1, qf⟩ := cells2 (hs2.blk 1 rfl)
  clear hs2 hzs HS1
  by_cases hlt : j < ws.length
  ·have hji : (j : Int) < (ws.length : Int) := by omega
   obtain ⟨x, hx⟩ : ∃ x, ws[j]? = some x := ⟨ws[j]'hlt, List.getElem?_eq_getElem _⟩
   obtain ⟨g, og, hg, hr, _, y0, _, _⟩ := entAt (HWD.out.rd HS2.out) rfl hx
   subst hg
   have HL := Lib.hid (loadRe hr)
   have HX := Lib.hid hx
   by_cases ho : x.o = o
   ·have hne : (x.o != o) = false := by simpa using ho
    have HT := Lib.hid (filter_take_no (q := fun e : EntE => !ofE o (entC e)) HX.out (by unfold ofE; simp [ho]))
    clear ho hx hr HL
    go_wp2_with fail
    go_roundw
    case rel => exact ⟨j + 1, oa, oc, zs, by go_num, rfl, by omega, by rw [HT.out]; exact HZS.out, HS2.out⟩
    case measure => simp [intOf]; omega
   ·have hne : (x.o != o) = true := by simpa using ho
    have HT := Lib.hid (filter_take_yes (q := fun e : EntE => !ofE o (entC e)) HX.out (by unfold ofE; simp [ho]))
    have HS5 := Lib.hid ((HS2.out.alloc (cellsC x).toArray tRe).front 1 rfl)
    have HRD := Lib.hid (rd_block (size := 18) (n := 1) (HS5.out.blk 1 rfl) (by simp [lenC]) (by unfold maxLen; omega))
    clear ho hx hr HS2
    go_wp2_with (first | (refine wpList_ld rfl _ _ rfl _ _ rfl _ HL.out ?_) | (refine wpList_build_one rfl _ _ rfl tRe i0 _ (cellsC x) rfl Tryz.underlying56 HI.out.1 HI.out.2.1 (HI.out.2.2.1.trans rfl) (by rw [lenC]; decide) (by rw [lenC]; decide) ?_) | (at_builtin; refine wpList_append_Sat _ rfl _ _ tREs rfl tRe i0 _ 18 200 Tryz.underlying56 HI.out.1 HI.out.2.1 HI.out.2.2.1 HI.out.2.2.2 rfl _ zs.length _ rfl HS5.out _ 1 _ rfl HRD.out (by simpa using oneC x) (by unfold maxLen; omega) (by omega) ?_; intro v11 w11 hs11 h11; obtain ⟨va, vc, rfl⟩ := hs11.own_shape; have HS11 := Lib.hid hs11; clear hs11 h11 HS5 HRD HL y0 q0 q1 qf))
    go_roundw
    case rel =>
     refine ⟨j + 1, va, vc, zs ++ [x], by go_num, by rw [List.length_append]; rfl, by omega, by rw [HT.out, HZS.out], ?_⟩
     show Sat B D w11 (ownS tRe 18 (.slice va (zs ++ [x]).length vc) (zs ++ [x]).length ((zs ++ [x]).flatMap cellsC) :: _)
     rw [List.length_append, List.flatMap_append]
     have h9 := (HS11.out.front 1 rfl).drop
     simpa using h9
    case measure => simp [intOf]; omega
  ·have hji : ¬ ((j : Int) < (ws.length : Int)) := by omega
   have HT := Lib.hid (show zs = ws.filter (fun e => !ofE o (entC e)) by rw [HZS.out, List.take_of_length_le (by omega)])
   have HS3 := Lib.hid (Sat.set2b (HS2.out.front 1 rfl) (.slice oa zs.length oc))
   go_upto_region 8 with fail
   obtain ⟨W8, hW8, hs8⟩ := Sat.hide HS3.out
   rw [← hW8]
   clear hW8 HS3 HS2 q0 q1 qf
   obtain ⟨D2, hle2, hE2, hs9⟩ := entsR_give (hs8.front 1 rfl) (fun e he => by rw [HZS.out] at he; exact HWD.out.2 e (List.mem_of_mem_take (List.mem_filter.1 he).1))
   have hmap : zs.map entC = Q.waits.filter (fun e => !ofE o e) := by rw [HT.out, ← HWQ.out, List.filter_map]; rfl
   have hfl := List.length_filter_le (fun e => !ofE o e) Q.waits
   have HLQ := Lib.hid (loadQ2 (blk_range (hs9.blk 0 rfl)))
   have HGV := Lib.hid (rqGiven_ok (Q := ⟨Q.held, Q.waits.filter (fun e => !ofE o e)⟩) (show QueD D2 (.agg #[.slice ha hs.length hcp, .slice oa zs.length oc]) _ from ⟨_, _, hs, zs, rfl, HH.out.mono hle2, hE2, HHQ.out, hmap⟩) (by show Q.held.length + (Q.waits.filter (fun e => !ofE o e)).length ≤ 1000; omega) hs9)
   have HLE2 := Lib.hid hle2
   clear hs8 hs9 hE2 hle2 hmap
   go_wp2_with (first | (refine wpList_ld rfl _ _ rfl _ _ rfl _ HLQ.out ?_) | (go_at_call 143; refine HGV.out.mono ?_; rintro e10 w10 ⟨v10, iv, D10, rfl, hle10, hq10, hs10⟩; have HQ10 := Lib.hid hq10; obtain ⟨hv2, wv2, hs2, ws2, rfl, hH2, hW2, _, _⟩ := hq10; have HO2 := Lib.hid (show ∀ u ∈ [hv2, wv2], u.oneCell' = true from fun u hu => by simp at hu; rcases hu with rfl | rfl; exact hH2.1.oneV; exact hW2.1.oneV); have HLE10 := Lib.hid hle10; have HS10 := Lib.hid (hs10.front 2 rfl); clear hs10 hle10 hH2 hW2 HGV HLQ) | (refine wpList_store_whole rfl _ _ _ rfl tRq b2 rfl [hv2, wv2] rfl nQ HS10.out (by kernel_rfl) rfl HO2.out ?_; intro w20 hs20; have HS20 := Lib.hid hs20; clear hs20 HS10))
   refine bodyPost_ret (results_c2 rfl _ _ rfl (loadQ2 (blk_range (HS20.out.blk 0 rfl)))) rfl ?_
   exact ⟨_, _, D10, rfl, HLE2.out.trans HLE10.out, HQ10.out, HS20.out.drop.swap.drop⟩
set_option maxHeartbeats 8000000 in
theorem rqClear_ok {B w : World} {D : PH} {l : List HP} {v : Value} {Q : Qm Clm} (o : Int) (hq : QueD D v Q) (hM : Q.held.length + Q.waits.length ≤ 1000) (s : Sat B D w l) :
  Calls Tryz.prog 99 #[v, .int .i64 o] w (GivenGot B D l (dropQ RC Q (ofE o))) := by
 obtain ⟨i0, hi, hz0, hz1, hz2⟩ := info_parts infoRe
 have HI := Lib.hid (And.intro hi (And.intro hz0 (And.intro hz1 hz2)))
 obtain ⟨hv, wv, hs, ws, rfl, hH, hW, hhq, hwq⟩ := hq
 obtain ⟨ha, hcp, rfl⟩ := hH.1.shape
 obtain ⟨wa, wc, rfl⟩ := hW.1.shape
 obtain ⟨W1, hW1, hs1⟩ := two_new s #[.slice ha hs.length hcp, .slice wa ws.length wc] nQ tRq tRq
 have HW1 := Lib.hid hW1
 have HS1 := Lib.hid (show Sat B D W1 (entsR (.slice none 0 0) [] :: _) from hs1.own_nil tRe 18)
 have HH := Lib.hid hH
 have HWD := Lib.hid hW
 have HHQ := Lib.hid hhq
 have HWQ := Lib.hid hwq
 have hhl : hs.length ≤ Q.held.length ∧ Q.held.length ≤ hs.length := by have := congrArg List.length hhq; rw [List.length_map] at this; omega
 have hwl : ws.length ≤ Q.waits.length ∧ Q.waits.length ≤ ws.length := by have := congrArg List.length hwq; rw [List.length_map] at this; omega
 have hxl : hs.length ≤ 1000 := by omega
 clear hs1 hW1 s hi hz0 hz1 hz2 hH hW hhq hwq
 go_enter Tryz.func99, Tryz.ntmps99
 go_upto_region 1 with fail
 rw [← HW1.out]
 clear HW1
 generalize w.heap.size + 1 = b2 at *
 generalize w.heap.size = b1 at *
 go_wp2_with fail
 go_loopw [6, 7] (fun ot ii wr => ∃ (j : Nat) (oa : Option Addr) (oc : Nat) (zs : List EntE), ii = .int .i64 j ∧ ot = .slice oa zs.length oc ∧ j ≤ hs.length ∧ zs = (hs.take j).filter (fun e => !ofE o (entC e)) ∧ Sat B D wr (entsR (.slice oa zs.length oc) zs :: blk b1 #[.slice ha hs.length hcp, .slice wa ws.length wc] tRq :: blk b2 nQ tRq :: l)) (fun _ ii _ => hs.length - (intOf ii).toNat)
 case atStart => exact ⟨0, none, 0, [], rfl, rfl, by omega, rfl, HS1.out⟩
 case round =>
  obtain ⟨j, oa, oc, zs, rfl, rfl, hj, hzs, hs2⟩ := hrel
  have hle : zs.length ≤ j := by rw [hzs]; exact Nat.le_trans (List.length_filter_le _ _) (by rw [List.length_take]; omega)
  have HZS := Lib.hid hzs
  have HS2 := Lib.hid hs2
  obtain ⟨q0, q1, qf⟩ := cells2 (hs2.blk 1 rfl)
  clear hs2 hzs HS1
  by_cases hlt : j < hs.length
  ·have hji : (j : Int) < (hs.length : Int) := by omega
   obtain ⟨x, hx⟩ : ∃ x, hs[j]? = some x := ⟨hs[j]'hlt, List.getElem?_eq_getElem _⟩
   obtain ⟨g, og, hg, hr, _, y0, _, _⟩ := entAt (HH.out.rd HS2.out) rfl hx
   subst hg
   have HL := Lib.hid (loadRe hr)
   have HX := Lib.hid hx
   by_cases ho : x.o = o
   ·have hne : (x.o != o) = false := by simpa using ho
    have HT := Lib.hid (filter_take_no (q := fun e : EntE => !ofE o (entC e)) HX.out (by unfold ofE; simp [ho]))
    clear ho hx hr HL
    go_wp2_with fail
    go_roundw
    case rel => exact ⟨j + 1, oa, oc, zs, by go_num, rfl, by omega, by rw [HT.out]; exact HZS.out, HS2.out⟩
    case measure => simp [intOf]; omega
   ·have hne : (x.o != o) = true := by simpa using ho
    have HT := Lib.hid (filter_take_yes (q := fun e : EntE => !ofE o (entC e)) HX.out (by unfold ofE; simp [ho]))
    have HS5 := Lib.hid ((HS2.out.alloc (cellsC x).toArray tRe).front 1 rfl)
    have HRD := Lib.hid (rd_block (size := 18) (n := 1) (HS5.out.blk 1 rfl) (by simp [lenC]) (by unfold maxLen; omega))
    clear ho hx hr HS2
    go_wp2_with (first | (refine wpList_ld rfl _ _ rfl _ _ rfl _ HL.out ?_) | (refine wpList_build_one rfl _ _ rfl tRe i0 _ (cellsC x) rfl Tryz.underlying56 HI.out.1 HI.out.2.1 (HI.out.2.2.1.trans rfl) (by rw [lenC]; decide) (by rw [lenC]; decide) ?_) | (at_builtin; refine wpList_append_Sat _ rfl _ _ tREs rfl tRe i0 _ 18 200 Tryz.underlying56 HI.out.1 HI.out.2.1 HI.out.2.2.1 HI.out.2.2.2 rfl _ zs.length _ rfl HS5.out _ 1 _ rfl HRD.out (by simpa using oneC x) (by unfold maxLen; omega) (by omega) ?_; intro v11 w11 hs11 h11; obtain ⟨va, vc, rfl⟩ := hs11.own_shape; have HS11 := Lib.hid hs11; clear hs11 h11 HS5 HRD HL y0 q0 q1 qf))
    go_roundw
    case rel =>
     refine ⟨j + 1, va, vc, zs ++ [x], by go_num, by rw [List.length_append]; rfl, by omega, by rw [HT.out, HZS.out], ?_⟩
     show Sat B D w11 (ownS tRe 18 (.slice va (zs ++ [x]).length vc) (zs ++ [x]).length ((zs ++ [x]).flatMap cellsC) :: _)
     rw [List.length_append, List.flatMap_append]
     have h9 := (HS11.out.front 1 rfl).drop
     simpa using h9
    case measure => simp [intOf]; omega
  ·have hji : ¬ ((j : Int) < (hs.length : Int)) := by omega
   have HT := Lib.hid (show zs = hs.filter (fun e => !ofE o (entC e)) by rw [HZS.out, List.take_of_length_le (by omega)])
   have HS3 := Lib.hid (Sat.set2a (HS2.out.front 1 rfl) (.slice oa zs.length oc))
   go_upto_region 8 with fail
   obtain ⟨W8, hW8, hs8⟩ := Sat.hide HS3.out
   rw [← hW8]
   clear hW8 HS3 HS2 q0 q1 qf
   obtain ⟨D2, hle2, hE2, hs9⟩ := entsR_give (hs8.front 1 rfl) (fun e he => by rw [HZS.out] at he; exact HH.out.2 e (List.mem_of_mem_take (List.mem_filter.1 he).1))
   have hmap : zs.map entC = Q.held.filter (fun e => !ofE o e) := by rw [HT.out, ← HHQ.out, List.filter_map]; rfl
   have hfl := List.length_filter_le (fun e => !ofE o e) Q.held
   have HLQ := Lib.hid (loadQ2 (blk_range (hs9.blk 0 rfl)))
   have HGV := Lib.hid (rqGiven_ok (Q := ⟨Q.held.filter (fun e => !ofE o e), Q.waits⟩) (show QueD D2 (.agg #[.slice oa zs.length oc, .slice wa ws.length wc]) _ from ⟨_, _, zs, ws, rfl, hE2, HWD.out.mono hle2, hmap, HWQ.out⟩) (by show (Q.held.filter (fun e => !ofE o e)).length + Q.waits.length ≤ 1000; omega) hs9)
   have HLE2 := Lib.hid hle2
   clear hs8 hs9 hE2 hle2 hmap
   go_wp2_with (first | (refine wpList_ld rfl _ _ rfl _ _ rfl _ HLQ.out ?_) | (go_at_call 143; refine HGV.out.mono ?_; rintro e10 w10 ⟨v10, iv, D10, rfl, hle10, hq10, hs10⟩; have HQ10 := Lib.hid hq10; obtain ⟨hv2, wv2, hs2, ws2, rfl, hH2, hW2, _, _⟩ := hq10; have HO2 := Lib.hid (show ∀ u ∈ [hv2, wv2], u.oneCell' = true from fun u hu => by simp at hu; rcases hu with rfl | rfl; exact hH2.1.oneV; exact hW2.1.oneV); have HLE10 := Lib.hid hle10; have HS10 := Lib.hid (hs10.front 2 rfl); clear hs10 hle10 hH2 hW2 HGV HLQ) | (refine wpList_store_whole rfl _ _ _ rfl tRq b2 rfl [hv2, wv2] rfl nQ HS10.out (by kernel_rfl) rfl HO2.out ?_; intro w20 hs20; have HS20 := Lib.hid hs20; clear hs20 HS10))
   refine bodyPost_ret (results_c2 rfl _ _ rfl (loadQ2 (blk_range (HS20.out.blk 0 rfl)))) rfl ?_
   exact ⟨_, _, D10, rfl, HLE2.out.trans HLE10.out, HQ10.out, HS20.out.drop.swap.drop⟩
end Go.Proofs.YtgljdkjepdknnaaGreatDoor

/- The document's queue: dropping (ratlineref10.Queue.Drop). (printed by genrqdrop.py) -/
namespace Go.Proofs.YtgljdkjepdknnaaGreatDoor
open Go.ChangeShapes Go.WideShapes Go.ChangeAt Go.RowKit
set_option maxRecDepth 100000
set_option linter.unusedSimpArgs false

/-- a row of claims that lies in the pool -/
def ClmsD (D : PH) (v : Value) (cs : List ClmE) : Prop := RdP D 16 v cs.length (cs.flatMap ClmE.cells) ∧ ∀ c ∈ cs, ClOk D c
theorem ClmsD.mono {D D' : PH} {v : Value} {cs : List ClmE} (h : ClmsD D v cs) (le : PH.le D D') : ClmsD D' v cs := ⟨h.1.mono le, fun c hc => (h.2 c hc).mono le⟩
theorem clmAt {B w : World} {D : PH} {l : List HP} {ao : Option Addr} {N cap j : Nat} {cs : List ClmE} {c : ClmE} (h : ClmsD D (.slice ao N cap) cs) (s : Sat B D w l) (hl : cs.length = N) (hc : cs[j]? = some c) :
  ∃ g o, ao = some ⟨g, o, none⟩ ∧ w.rangeAt g (o + j * 16) c.cells ∧ ClOk D c := by
 obtain ⟨g, o, hg, hr⟩ := elem_range ClmE.len (by have := h.1.rd s; rw [hl] at this; exact this) hc hl
 exact ⟨g, o, hg, hr, h.2 c (List.mem_of_getElem? hc)⟩
set_option maxHeartbeats 16000000 in
theorem rqDrop_ok {B w : World} {D : PH} {l : List HP} {v gv : Value} {Q : Qm Clm} {cs : List ClmE} (o : Int) (hq : QueD D v Q) (hg : ClmsD D gv cs) (hM : Q.held.length + Q.waits.length ≤ 1000) (s : Sat B D w l) :
  Calls Tryz.prog 103 #[v, .int .i64 o, gv] w (GivenGot B D l (dropQ RC Q (goneP o (cs.map ClmE.c)))) := by
 obtain ⟨i0, hi, hz0, hz1, hz2⟩ := info_parts infoRe
 have HI := Lib.hid (And.intro hi (And.intro hz0 (And.intro hz1 hz2)))
 obtain ⟨hv, wv, hs, ws, rfl, hH, hW, hhq, hwq⟩ := hq
 obtain ⟨ha, hcp, rfl⟩ := hH.1.shape
 obtain ⟨wa, wc, rfl⟩ := hW.1.shape
 obtain ⟨ga, gc, rfl⟩ := hg.1.shape
 have hgl := hg.1.len
 obtain ⟨W1, hW1, hs1⟩ := two_new s #[.slice ha hs.length hcp, .slice wa ws.length wc] nQ tRq tRq
 have HW1 := Lib.hid hW1
 have HS1 := Lib.hid (show Sat B D W1 (entsR (.slice none 0 0) [] :: _) from hs1.own_nil tRe 18)
 have HH := Lib.hid hH
 have HWD := Lib.hid hW
 have HHQ := Lib.hid hhq
 have HWQ := Lib.hid hwq
 have HG := Lib.hid hg
 have hhl : hs.length ≤ Q.held.length ∧ Q.held.length ≤ hs.length := by have := congrArg List.length hhq; rw [List.length_map] at this; omega
 have hwl : ws.length ≤ Q.waits.length ∧ Q.waits.length ≤ ws.length := by have := congrArg List.length hwq; rw [List.length_map] at this; omega
 have hxl : hs.length ≤ 1000 := by omega
 clear hs1 hW1 s hi hz0 hz1 hz2 hH hW hhq hwq hg
 go_enter Tryz.func103, Tryz.ntmps103
 go_upto_region 1 with fail
 rw [← HW1.out]
 clear HW1
 generalize w.heap.size + 1 = b2 at *
 generalize w.heap.size = b1 at *
 go_wp2_with fail
 go_loopw [8, 9] (fun ot ii wr => ∃ (j : Nat) (oa : Option Addr) (oc : Nat) (zs : List EntE), ii = .int .i64 j ∧ ot = .slice oa zs.length oc ∧ j ≤ hs.length ∧ zs = (hs.take j).filter (fun e => !goneP o (cs.map ClmE.c) (entC e)) ∧ Sat B D wr (entsR (.slice oa zs.length oc) zs :: blk b1 #[.slice ha hs.length hcp, .slice wa ws.length wc] tRq :: blk b2 nQ tRq :: l)) (fun _ ii _ => hs.length - (intOf ii).toNat)
 case atStart => exact ⟨0, none, 0, [], rfl, rfl, by omega, rfl, HS1.out⟩
 case round =>
  obtain ⟨j, oa, oc, zs, rfl, rfl, hj, hzs, hs2⟩ := hrel
  have hle : zs.length ≤ j := by rw [hzs]; exact Nat.le_trans (List.length_filter_le _ _) (by rw [List.length_take]; omega)
  have HZS := Lib.hid hzs
  have HS2 := Lib.hid hs2
  obtain ⟨q0, q1, qf⟩ := cells2 (hs2.blk 1 rfl)
  clear hs2 hzs HS1
  by_cases hlt : j < hs.length
  ·have hji : (j : Int) < (hs.length : Int) := by omega
   obtain ⟨x, hx⟩ : ∃ x, hs[j]? = some x := ⟨hs[j]'hlt, List.getElem?_eq_getElem _⟩
   have HGP := Lib.hid (show goneP o (cs.map ClmE.c) (entC x) = (decide (x.o = o) && cs.any (fun c => RC.same x.x.c c.c)) by unfold goneP; rw [List.any_map]; rfl)
   have HX := Lib.hid hx
   clear hx
   by_cases ho : x.o = o
   ·have hne : (x.o == o) = true := by simpa using ho
    rw [decide_eq_true ho] at HGP
    clear ho
    go_wp2_with fail
    clear q0 q1 qf
    go_loopw [10, 11] (fun st ii wr2 => ∃ (k : Nat) (b : Bool), ii = .int .i64 k ∧ st = .bool b ∧ k ≤ cs.length ∧ b = !((cs.take k).any (fun c => RC.same x.x.c c.c)) ∧ Sat B D wr2 (entsR (.slice oa zs.length oc) zs :: blk b1 #[.slice ha hs.length hcp, .slice wa ws.length wc] tRq :: blk b2 nQ tRq :: l)) (fun _ ii _ => cs.length - (intOf ii).toNat)
    case atStart => exact ⟨0, true, rfl, rfl, Nat.zero_le _, rfl, HS2.out⟩
    case round =>
     obtain ⟨k, b, rfl, rfl, hk, hb, hs3⟩ := hrel
     have HB := Lib.hid hb
     have HS3 := Lib.hid hs3
     obtain ⟨q0, q1, qf⟩ := cells2 (hs3.blk 1 rfl)
     clear hb hs3 HS2
     by_cases hkc : k < cs.length
     ·have hki : (k : Int) < (cs.length : Int) := by omega
      obtain ⟨c, hc⟩ : ∃ c, cs[k]? = some c := ⟨cs[k]'hkc, List.getElem?_eq_getElem _⟩
      have HC := Lib.hid hc
      obtain ⟨g4, og4, hg4, _, hr2, y0, hre, _⟩ := entAt (HH.out.rd HS3.out) rfl HX.out
      cases hg4
      obtain ⟨gg, gog, hgg, hgr, hok⟩ := clmAt HG.out HS3.out rfl hc
      subst hgg
      have HLX := Lib.hid (loadCl (w := wr.drew) hr2)
      have HLC := Lib.hid (loadCl (w := wr.drew) hgr)
      have HSM := Lib.hid (rcSame_ok (w := wr.drew) hre.drew (hok.rd HS3.out.drew))
      obtain ⟨sm, hsm⟩ : ∃ sm, RC.same x.x.c c.c = sm := ⟨_, rfl⟩
      rw [hsm] at HSM
      have HSE := Lib.hid hsm
      clear hc hr2 hre hgr hok hsm
      go_upto_region 9 with fail
      refine wp_region_canon [(0, false, 10), (1, false, 10), (2, false, 10), (3, false, 10), (4, false, 10), (5, false, 10), (6, false, 10), (7, false, 10), (8, false, 10), (9, false, 10), (10, true, 0), (11, false, 999)] (by kernel_rfl) (by kernel_rfl) ?_
      iterate 10 (refine wpCan_read rfl rfl (fun K hK => ?_); (first | ((refine still_ld _ _ rfl _ _ rfl _ HLX.out ?_); go_simp) | ((refine still_ld _ _ rfl _ _ rfl _ HLC.out ?_); go_simp) | go_simp); refine hK _ ?_; clear hK K)
      refine wpCan_eff rfl ?_
      refine wpList_do rfl (fun K hK => ?_)
      go_simp
      refine HSM.out.mono ?_
      rintro e6 w6 ⟨rfl, hk6⟩
      have HS6 := Lib.hid (HS3.out.drew.kept hk6)
      clear hk6 HSM HLX HLC HS3 q0 q1 qf y0
      refine hK _ _ ?_
      clear hK K
      refine wpList_nil ?_
      refine And.intro ?_ ?_
      ·go_simp
      iterate 1 (refine wpCan_read rfl rfl (fun K hK => ?_); (first | ((refine still_ld _ _ rfl _ _ rfl _ HLX.out ?_); go_simp) | ((refine still_ld _ _ rfl _ _ rfl _ HLC.out ?_); go_simp) | go_simp); refine hK _ ?_; clear hK K)
      refine wpCan_nil ?_
      have HN := Lib.hid (show (b && !sm) = !((cs.take (k + 1)).any (fun c => RC.same x.x.c c.c)) by rw [any_snoc _ HC.out, Bool.not_or, ← HB.out, HSE.out])
      cases b <;> cases sm
      all_goals
       go_wp2_with fail
       go_roundw
       case rel => exact ⟨k + 1, _, by go_num, rfl, by omega, HN.out, HS6.out⟩
       case measure => simp [intOf]; omega
     ·have hki : ¬ ((k : Int) < (cs.length : Int)) := by omega
      have HGV := Lib.hid (show goneP o (cs.map ClmE.c) (entC x) = !b by rw [HGP.out, HB.out, List.take_of_length_le (by omega), Bool.not_not]; rfl)
      clear q0 q1 qf
      cases b
      ·skip
       have HT := Lib.hid (filter_take_no (q := fun e : EntE => !goneP o (cs.map ClmE.c) (entC e)) HX.out (by rw [HGV.out]; rfl))
       go_wp2_with fail
       go_roundw
       case rel => exact ⟨j + 1, oa, oc, zs, by go_num, rfl, by omega, by rw [HT.out]; exact HZS.out, HS3.out⟩
       case measure => simp [intOf]; omega
      ·go_upto_region 11 with fail
       have HT := Lib.hid (filter_take_yes (q := fun e : EntE => !goneP o (cs.map ClmE.c) (entC e)) HX.out (by rw [HGV.out]; rfl))
       obtain ⟨q0, q1, qf⟩ := cells2 (HS3.out.blk 1 rfl)
       obtain ⟨g5, og5, hg5, hr, _, y0, _, _⟩ := entAt (HH.out.rd HS3.out) rfl HX.out
       cases hg5
       have HL := Lib.hid (loadRe hr)
       have HS5 := Lib.hid ((HS3.out.alloc (cellsC x).toArray tRe).front 1 rfl)
       have HRD := Lib.hid (rd_block (size := 18) (n := 1) (HS5.out.blk 1 rfl) (by simp [lenC]) (by unfold maxLen; omega))
       clear hr HS3
       go_wp2_with (first | (refine wpList_ld rfl _ _ rfl _ _ rfl _ HL.out ?_) | (refine wpList_build_one rfl _ _ rfl tRe i0 _ (cellsC x) rfl Tryz.underlying56 HI.out.1 HI.out.2.1 (HI.out.2.2.1.trans rfl) (by rw [lenC]; decide) (by rw [lenC]; decide) ?_) | (at_builtin; refine wpList_append_Sat _ rfl _ _ tREs rfl tRe i0 _ 18 200 Tryz.underlying56 HI.out.1 HI.out.2.1 HI.out.2.2.1 HI.out.2.2.2 rfl _ zs.length _ rfl HS5.out _ 1 _ rfl HRD.out (by simpa using oneC x) (by unfold maxLen; omega) (by omega) ?_; intro v11 w11 hs11 h11; obtain ⟨va, vc, rfl⟩ := hs11.own_shape; have HS11 := Lib.hid hs11; clear hs11 h11 HS5 HRD HL y0 q0 q1 qf))
       go_roundw
       case rel =>
        refine ⟨j + 1, va, vc, zs ++ [x], by go_num, by rw [List.length_append]; rfl, by omega, by rw [HT.out, HZS.out], ?_⟩
        show Sat B D w11 (ownS tRe 18 (.slice va (zs ++ [x]).length vc) (zs ++ [x]).length ((zs ++ [x]).flatMap cellsC) :: _)
        rw [List.length_append, List.flatMap_append]
        have h9 := (HS11.out.front 1 rfl).drop
        simpa using h9
       case measure => simp [intOf]; omega
   ·have hne : (x.o == o) = false := by simpa using ho
    rw [decide_eq_false ho] at HGP
    have HGV := Lib.hid (show goneP o (cs.map ClmE.c) (entC x) = false by rw [HGP.out]; rfl)
    clear ho
    go_wp2_with fail
    clear q0 q1 qf
    go_loopw [10, 11] (fun st ii wr2 => ii = .int .i64 0 ∧ st = .bool true ∧ Sat B D wr2 (entsR (.slice oa zs.length oc) zs :: blk b1 #[.slice ha hs.length hcp, .slice wa ws.length wc] tRq :: blk b2 nQ tRq :: l)) (fun _ ii _ => 0)
    case atStart => exact ⟨rfl, rfl, HS2.out⟩
    case round =>
     obtain ⟨rfl, rfl, hs3⟩ := hrel
     have HS3 := Lib.hid hs3
     clear hs3 HS2
     by_cases hkc : 0 < cs.length
     ·have hki : (0 : Int) < (cs.length : Int) := by omega
      obtain ⟨q0, q1, qf⟩ := cells2 (HS3.out.blk 1 rfl)
      obtain ⟨g4, og4, hg4, _, _, y0, _, _⟩ := entAt (HH.out.rd HS3.out) rfl HX.out
      cases hg4
      go_upto_region 11 with fail
      clear q0 q1 qf y0
      have HT := Lib.hid (filter_take_yes (q := fun e : EntE => !goneP o (cs.map ClmE.c) (entC e)) HX.out (by rw [HGV.out]; rfl))
      obtain ⟨q0, q1, qf⟩ := cells2 (HS3.out.blk 1 rfl)
      obtain ⟨g5, og5, hg5, hr, _, y0, _, _⟩ := entAt (HH.out.rd HS3.out) rfl HX.out
      cases hg5
      have HL := Lib.hid (loadRe hr)
      have HS5 := Lib.hid ((HS3.out.alloc (cellsC x).toArray tRe).front 1 rfl)
      have HRD := Lib.hid (rd_block (size := 18) (n := 1) (HS5.out.blk 1 rfl) (by simp [lenC]) (by unfold maxLen; omega))
      clear hr HS3
      go_wp2_with (first | (refine wpList_ld rfl _ _ rfl _ _ rfl _ HL.out ?_) | (refine wpList_build_one rfl _ _ rfl tRe i0 _ (cellsC x) rfl Tryz.underlying56 HI.out.1 HI.out.2.1 (HI.out.2.2.1.trans rfl) (by rw [lenC]; decide) (by rw [lenC]; decide) ?_) | (at_builtin; refine wpList_append_Sat _ rfl _ _ tREs rfl tRe i0 _ 18 200 Tryz.underlying56 HI.out.1 HI.out.2.1 HI.out.2.2.1 HI.out.2.2.2 rfl _ zs.length _ rfl HS5.out _ 1 _ rfl HRD.out (by simpa using oneC x) (by unfold maxLen; omega) (by omega) ?_; intro v11 w11 hs11 h11; obtain ⟨va, vc, rfl⟩ := hs11.own_shape; have HS11 := Lib.hid hs11; clear hs11 h11 HS5 HRD HL y0 q0 q1 qf))
      go_roundw
      case rel =>
       refine ⟨j + 1, va, vc, zs ++ [x], by go_num, by rw [List.length_append]; rfl, by omega, by rw [HT.out, HZS.out], ?_⟩
       show Sat B D w11 (ownS tRe 18 (.slice va (zs ++ [x]).length vc) (zs ++ [x]).length ((zs ++ [x]).flatMap cellsC) :: _)
       rw [List.length_append, List.flatMap_append]
       have h9 := (HS11.out.front 1 rfl).drop
       simpa using h9
      case measure => simp [intOf]; omega
     ·have hki : ¬ ((0 : Int) < (cs.length : Int)) := by omega
      go_upto_region 11 with fail
      have HT := Lib.hid (filter_take_yes (q := fun e : EntE => !goneP o (cs.map ClmE.c) (entC e)) HX.out (by rw [HGV.out]; rfl))
      obtain ⟨q0, q1, qf⟩ := cells2 (HS3.out.blk 1 rfl)
      obtain ⟨g5, og5, hg5, hr, _, y0, _, _⟩ := entAt (HH.out.rd HS3.out) rfl HX.out
      cases hg5
      have HL := Lib.hid (loadRe hr)
      have HS5 := Lib.hid ((HS3.out.alloc (cellsC x).toArray tRe).front 1 rfl)
      have HRD := Lib.hid (rd_block (size := 18) (n := 1) (HS5.out.blk 1 rfl) (by simp [lenC]) (by unfold maxLen; omega))
      clear hr HS3
      go_wp2_with (first | (refine wpList_ld rfl _ _ rfl _ _ rfl _ HL.out ?_) | (refine wpList_build_one rfl _ _ rfl tRe i0 _ (cellsC x) rfl Tryz.underlying56 HI.out.1 HI.out.2.1 (HI.out.2.2.1.trans rfl) (by rw [lenC]; decide) (by rw [lenC]; decide) ?_) | (at_builtin; refine wpList_append_Sat _ rfl _ _ tREs rfl tRe i0 _ 18 200 Tryz.underlying56 HI.out.1 HI.out.2.1 HI.out.2.2.1 HI.out.2.2.2 rfl _ zs.length _ rfl HS5.out _ 1 _ rfl HRD.out (by simpa using oneC x) (by unfold maxLen; omega) (by omega) ?_; intro v11 w11 hs11 h11; obtain ⟨va, vc, rfl⟩ := hs11.own_shape; have HS11 := Lib.hid hs11; clear hs11 h11 HS5 HRD HL y0 q0 q1 qf))
      go_roundw
      case rel =>
       refine ⟨j + 1, va, vc, zs ++ [x], by go_num, by rw [List.length_append]; rfl, by omega, by rw [HT.out, HZS.out], ?_⟩
       show Sat B D w11 (ownS tRe 18 (.slice va (zs ++ [x]).length vc) (zs ++ [x]).length ((zs ++ [x]).flatMap cellsC) :: _)
       rw [List.length_append, List.flatMap_append]
       have h9 := (HS11.out.front 1 rfl).drop
       simpa using h9
      case measure => simp [intOf]; omega
  ·have hji : ¬ ((j : Int) < (hs.length : Int)) := by omega
   have HT := Lib.hid (show zs = hs.filter (fun e => !goneP o (cs.map ClmE.c) (entC e)) by rw [HZS.out, List.take_of_length_le (by omega)])
   have HS3 := Lib.hid (Sat.set2a (HS2.out.front 1 rfl) (.slice oa zs.length oc))
   go_upto_region 14 with fail
   obtain ⟨W8, hW8, hs8⟩ := Sat.hide HS3.out
   rw [← hW8]
   clear hW8 HS3 HS2 q0 q1 qf
   obtain ⟨D2, hle2, hE2, hs9⟩ := entsR_give (hs8.front 1 rfl) (fun e he => by rw [HZS.out] at he; exact HH.out.2 e (List.mem_of_mem_take (List.mem_filter.1 he).1))
   have hmap : zs.map entC = Q.held.filter (fun e => !goneP o (cs.map ClmE.c) e) := by rw [HT.out, ← HHQ.out, List.filter_map]; rfl
   have hfl := List.length_filter_le (fun e => !goneP o (cs.map ClmE.c) e) Q.held
   have HLQ := Lib.hid (loadQ2 (blk_range (hs9.blk 0 rfl)))
   have HGV := Lib.hid (rqGiven_ok (Q := ⟨Q.held.filter (fun e => !goneP o (cs.map ClmE.c) e), Q.waits⟩) (show QueD D2 (.agg #[.slice oa zs.length oc, .slice wa ws.length wc]) _ from ⟨_, _, zs, ws, rfl, hE2, HWD.out.mono hle2, hmap, HWQ.out⟩) (by show (Q.held.filter (fun e => !goneP o (cs.map ClmE.c) e)).length + Q.waits.length ≤ 1000; omega) hs9)
   have HLE2 := Lib.hid hle2
   clear hs8 hs9 hE2 hle2 hmap
   go_wp2_with (first | (refine wpList_ld rfl _ _ rfl _ _ rfl _ HLQ.out ?_) | (go_at_call 143; refine HGV.out.mono ?_; rintro e10 w10 ⟨v10, iv, D10, rfl, hle10, hq10, hs10⟩; have HQ10 := Lib.hid hq10; obtain ⟨hv2, wv2, hs2, ws2, rfl, hH2, hW2, _, _⟩ := hq10; have HO2 := Lib.hid (show ∀ u ∈ [hv2, wv2], u.oneCell' = true from fun u hu => by simp at hu; rcases hu with rfl | rfl; exact hH2.1.oneV; exact hW2.1.oneV); have HLE10 := Lib.hid hle10; have HS10 := Lib.hid (hs10.front 2 rfl); clear hs10 hle10 hH2 hW2 HGV HLQ) | (refine wpList_store_whole rfl _ _ _ rfl tRq b2 rfl [hv2, wv2] rfl nQ HS10.out (by kernel_rfl) rfl HO2.out ?_; intro w20 hs20; have HS20 := Lib.hid hs20; clear hs20 HS10))
   refine bodyPost_ret (results_c2 rfl _ _ rfl (loadQ2 (blk_range (HS20.out.blk 0 rfl)))) rfl ?_
   exact ⟨_, _, D10, rfl, HLE2.out.trans HLE10.out, HQ10.out, HS20.out.drop.swap.drop⟩
end Go.Proofs.YtgljdkjepdknnaaGreatDoor

/- What an owner holds, of the document's queue (ratlineref10.Queue.Holds). -/
namespace Go.Proofs.YtgljdkjepdknnaaGreatDoor
open Go.ChangeShapes Go.WideShapes Go.ChangeAt Go.RowKit
set_option maxRecDepth 100000
set_option linter.unusedSimpArgs false

abbrev tCs : TypeId := 45
theorem clsP_give {B w : World} {D : PH} {l : List HP} {v : Value} {cs : List ClmE} (h : Sat B D w (clsP v cs :: l)) (hz : ∀ c ∈ cs, ClOk D c) : ∃ D', PH.le D D' ∧ ClmsD D' v cs ∧ Sat B D' w l := by
 obtain ⟨D', hle, hrd, hs⟩ := h.own_give
 exact ⟨D', hle, ⟨hrd, fun e he => (hz e he).mono hle⟩, hs⟩
def ClmsGot (B : World) (D : PH) (l : List HP) (L : List Clm) (r : Ending) (w' : World) : Prop := ∃ (v : Value) (cs : List ClmE) (D' : PH), r = .returned v ∧ PH.le D D' ∧ ClmsD D' v cs ∧ cs.map ClmE.c = L ∧ Sat B D' w' l
set_option maxHeartbeats 8000000 in
theorem rqHolds_ok {B w : World} {D : PH} {l : List HP} {v : Value} {Q : Qm Clm} (o : Int) (hq : QueD D v Q) (hM : Q.held.length ≤ 1000) (s : Sat B D w l) :
  Calls Tryz.prog 34 #[v, .int .i64 o] w (ClmsGot B D l (holdsQ Q o)) := by
 obtain ⟨i0, hi, hz0, hz1, hz2⟩ := info_parts infoCl
 have HI := Lib.hid (And.intro hi (And.intro hz0 (And.intro hz1 hz2)))
 obtain ⟨hv, wv, hs, ws, rfl, hH, hW, hhq, hwq⟩ := hq
 obtain ⟨ha, hcp, rfl⟩ := hH.1.shape
 obtain ⟨W1, hW1, hs1⟩ := Sat.hide (s.alloc #[.slice ha hs.length hcp, wv] tRq)
 have HW1 := Lib.hid hW1
 have HS1 := Lib.hid (show Sat B D W1 (clsP (.slice none 0 0) [] :: _) from hs1.own_nil tCl 16)
 have HH := Lib.hid hH
 have HHQ := Lib.hid hhq
 have hxl : hs.length ≤ 1000 := by rw [← List.length_map (f := entC), hhq]; exact hM
 clear hs1 hW1 s hi hz0 hz1 hz2 hH hW hhq hwq
 go_enter Tryz.func34, Tryz.ntmps34
 go_upto_region 1 with fail
 rw [← HW1.out]
 clear HW1
 generalize w.heap.size = b1 at *
 go_wp2_with fail
 go_loopw [5, 6] (fun ot ii wr => ∃ (j : Nat) (oa : Option Addr) (oc : Nat), ii = .int .i64 j ∧ ot = .slice oa (heldToC hs o j).length oc ∧ j ≤ hs.length ∧ Sat B D wr (clsP (.slice oa (heldToC hs o j).length oc) (heldToC hs o j) :: blk b1 #[.slice ha hs.length hcp, wv] tRq :: l)) (fun _ ii _ => hs.length - (intOf ii).toNat)
 case atStart => exact ⟨0, none, 0, rfl, rfl, by omega, HS1.out⟩
 case round =>
  obtain ⟨j, oa, oc, rfl, rfl, hj, hs2⟩ := hrel
  have hle := heldToC_le hs o j
  have HS2 := Lib.hid hs2
  obtain ⟨q0, q1, qf⟩ := cells2 (hs2.blk 1 rfl)
  clear hs2 HS1
  by_cases hlt : j < hs.length
  ·have hji : (j : Int) < (hs.length : Int) := by omega
   obtain ⟨x, hx⟩ : ∃ x, hs[j]? = some x := ⟨hs[j]'hlt, List.getElem?_eq_getElem _⟩
   obtain ⟨g, og, hg, _, hr2, y0, _, _⟩ := entAt (HH.out.rd HS2.out) rfl hx
   subst hg
   have HL := Lib.hid (loadCl hr2)
   by_cases ho : x.o = o
   ·have hne : (x.o == o) = true := by simpa using ho
    have HT := Lib.hid (heldToC_yes hx ho)
    generalize hcs : heldToC hs o j = cs at *
    have HS5 := Lib.hid ((HS2.out.alloc x.x.cells.toArray tCl).front 1 rfl)
    have HRD := Lib.hid (rd_block (size := 16) (n := 1) (HS5.out.blk 1 rfl) rfl (by unfold maxLen; omega))
    clear ho hx hr2 HS2 hcs
    go_wp2_with (first | (refine wpList_ld rfl _ _ rfl _ _ rfl _ HL.out ?_) | (refine wpList_build_one rfl _ _ rfl tCl i0 _ x.x.cells rfl Tryz.underlying45 HI.out.1 HI.out.2.1 (HI.out.2.2.1.trans rfl) (by rw [ClmE.len]; decide) (by rw [ClmE.len]; decide) ?_) | (at_builtin; refine wpList_append_Sat _ rfl _ _ tCs rfl tCl i0 _ 16 184 Tryz.underlying45 HI.out.1 HI.out.2.1 HI.out.2.2.1 HI.out.2.2.2 rfl _ cs.length _ rfl HS5.out _ 1 _ rfl HRD.out (by simpa using ClmE.one x.x) (by unfold maxLen; omega) (by omega) ?_; intro v11 w11 hs11 h11; obtain ⟨va, vc, rfl⟩ := hs11.own_shape; have HS11 := Lib.hid hs11; clear hs11 h11 HS5 HRD HL y0 q0 q1 qf))
    go_roundw
    case rel =>
     refine ⟨j + 1, va, vc, by go_num, by rw [HT.out, List.length_append]; rfl, by omega, ?_⟩
     rw [HT.out]
     show Sat B D w11 (ownS tCl 16 (.slice va (cs ++ [x.x]).length vc) (cs ++ [x.x]).length ((cs ++ [x.x]).flatMap ClmE.cells) :: _)
     rw [List.length_append, List.flatMap_append]
     have h9 := (HS11.out.front 1 rfl).drop
     simpa using h9
    case measure => simp [intOf]; omega
   ·have hne : (x.o == o) = false := by simpa using ho
    have HT := Lib.hid (heldToC_no hx ho)
    clear ho hx hr2 HL
    go_wp2_with fail
    go_roundw
    case rel => exact ⟨j + 1, oa, oc, by go_num, by rw [HT.out], by omega, by rw [HT.out]; exact HS2.out⟩
    case measure => simp [intOf]; omega
  ·have hji : ¬ ((j : Int) < (hs.length : Int)) := by omega
   obtain rfl : j = hs.length := by omega
   have HT := Lib.hid (heldToC_all o HHQ.out)
   go_wp2_with fail
   go_ret
   obtain ⟨D', hle', he, hs9⟩ := clsP_give HS2.out (fun y hy => by
    unfold heldToC at hy
    obtain ⟨e, he, rfl⟩ := List.mem_map.1 hy
    exact (HH.out.2 e (List.mem_of_mem_take (List.mem_filter.1 he).1)).1)
   exact ⟨_, _, D', rfl, hle', he, HT.out, hs9.drop⟩
end Go.Proofs.YtgljdkjepdknnaaGreatDoor
