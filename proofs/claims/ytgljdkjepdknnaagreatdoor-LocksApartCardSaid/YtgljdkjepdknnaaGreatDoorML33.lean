/- Joined texts: The document's queue: leaving, dropping all (ratlineref10.Queue.Leave, Clear). (printed by genrqmv.py) The document's queue: dropping (ratlineref10.Queue.Drop). (printed by genrqdrop.py) What an owner holds, of the document's queue (ratlineref10.Queue.Holds). -/
import Derived.Test.YtgljdkjepdknnaaGreatDoorML32
import Derived.Test.YtgljdkjepdknnaaGreatDoorML15
set_option maxHeartbeats 64000000
namespace Go.Proofs.YtgljdkjepdknnaaGreatDoor
open Go.ChangeShapes Go.WideShapes Go.ChangeAt Go.RowKit
set_option maxRecDepth 100000
set_option linter.unusedSimpArgs false
theorem fz {B w : World} {D : PH} {l : List HP} {v : Value} {Q : Qm Clm} (o : Int) (hq : QueD D v Q) (hM : Q.held.length + Q.waits.length ≤ 1000) (s : Sat B D w l) :
  Calls Tryz.prog 98 #[v, .int .i64 o] w (jw B D l (bu RC Q o)) := by
 obtain ⟨i0, hi, hz0, hz1, hz2⟩ := info_parts gJ
 have HI := Eh (And.intro hi (And.intro hz0 (And.intro hz1 hz2)))
 obtain ⟨hv, wv, hs, ws, rfl, hH, hW, hhq, hwq⟩ := hq
 obtain ⟨ha, hcp, rfl⟩ := hH.1.shape
 obtain ⟨wa, wc, rfl⟩ := hW.1.shape
 obtain ⟨W1, hW1, hs1⟩ := cG s #[.slice ha hs.length hcp, .slice wa ws.length wc] nQ tRq tRq
 have uW := Eh hW1
 have uX := Eh (show Sat B D W1 (fq (.slice none 0 0) [] :: _) from hs1.own_nil tRe 18)
 have HH := Eh hH
 have wQ := Eh hW
 have xL := Eh hhq
 have xJ := Eh hwq
 have hhl : hs.length ≤ Q.held.length ∧ Q.held.length ≤ hs.length := by have := congrArg List.length hhq; rw [List.length_map] at this; omega
 have hwl : ws.length ≤ Q.waits.length ∧ Q.waits.length ≤ ws.length := by have := congrArg List.length hwq; rw [List.length_map] at this; omega
 have hxl : ws.length ≤ 1000 := by omega
 clear hs1 hW1 s hi hz0 hz1 hz2 hH hW hhq hwq
 go_enter Tryz.func98, Tryz.ntmps98
 go_upto_region 1 with fail
 rw [← uW.out]
 clear uW
 generalize w.heap.size + 1 = b2 at *
 generalize w.heap.size = b1 at *
 go_wp2_with fail
 go_loopw [6, 7] (fun ot ii wr => ∃ (j : Nat) (oa : Option Addr) (oc : Nat) (zs : List EntE), ii = .int .i64 j ∧ ot = .slice oa zs.length oc ∧ j ≤ ws.length ∧ zs = (ws.take j).filter (fun e => !ofE o (aE e)) ∧ Sat B D wr (fq (.slice oa zs.length oc) zs :: blk b1 #[.slice ha hs.length hcp, .slice wa ws.length wc] tRq :: blk b2 nQ tRq :: l)) (fun _ ii _ => ws.length - (intOf ii).toNat)
 case atStart => exact ⟨0, none, 0, [], rfl, rfl, by omega, rfl, uX.out⟩
 case round =>
  obtain ⟨j, oa, oc, zs, rfl, rfl, hj, hzs, hs2⟩ := hrel
  have hle : zs.length ≤ j := by rw [hzs]; exact Nat.le_trans (List.length_filter_le _ _) (by rw [List.length_take]; omega)
  have wo := Eh hzs
  have vg := Eh hs2
  obtain ⟨q0, q1, qf⟩ := aJ (hs2.blk 1 rfl)
  clear hs2 hzs uX
  by_cases hlt : j < ws.length
  ·have hji : (j : Int) < (ws.length : Int) := by omega
   obtain ⟨x, hx⟩ : ∃ x, ws[j]? = some x := ⟨ws[j]'hlt, List.getElem?_eq_getElem _⟩
   obtain ⟨g, og, hg, hr, _, y0, _, _⟩ := dQ (wQ.out.rd vg.out) rfl hx
   subst hg
   have HL := Eh (el hr)
   have HX := Eh hx
   by_cases ho : x.o = o
   ·have hne : (x.o != o) = false := by simpa using ho
    have HT := Eh (aW (q := fun e : EntE => !ofE o (aE e)) HX.out (by unfold ofE; simp [ho]))
    clear ho hx hr HL
    go_wp2_with fail
    go_roundw
    case rel => exact ⟨j + 1, oa, oc, zs, by go_num, rfl, by omega, by rw [HT.out]; exact wo.out, vg.out⟩
    case measure => simp [intOf]; omega
   ·have hne : (x.o != o) = true := by simpa using ho
    have HT := Eh (aR (q := fun e : EntE => !ofE o (aE e)) HX.out (by unfold ofE; simp [ho]))
    have uZ := Eh ((vg.out.alloc (ay x).toArray tRe).front 1 rfl)
    have vk := Eh (aS (size := 18) (n := 1) (uZ.out.blk 1 rfl) (by simp [bT]) (by unfold maxLen; omega))
    clear ho hx hr vg
    go_wp2_with (first | (refine ai rfl _ _ rfl _ _ rfl _ HL.out ?_) | (refine aD rfl _ _ rfl tRe i0 _ (ay x) rfl Tryz.underlying56 HI.out.1 HI.out.2.1 (HI.out.2.2.1.trans rfl) (by rw [bT]; decide) (by rw [bT]; decide) ?_) | (at_builtin; refine au _ rfl _ _ ew rfl tRe i0 _ 18 200 Tryz.underlying56 HI.out.1 HI.out.2.1 HI.out.2.2.1 HI.out.2.2.2 rfl _ zs.length _ rfl uZ.out _ 1 _ rfl vk.out (by simpa using eE x) (by unfold maxLen; omega) (by omega) ?_; intro v11 w11 hs11 h11; obtain ⟨va, vc, rfl⟩ := hs11.own_shape; have vl := Eh hs11; clear hs11 h11 uZ vk HL y0 q0 q1 qf))
    go_roundw
    case rel =>
     refine ⟨j + 1, va, vc, zs ++ [x], by go_num, by rw [List.length_append]; rfl, by omega, by rw [HT.out, wo.out], ?_⟩
     show Sat B D w11 (aI tRe 18 (.slice va (zs ++ [x]).length vc) (zs ++ [x]).length ((zs ++ [x]).flatMap ay) :: _)
     rw [List.length_append, List.flatMap_append]
     have h9 := (vl.out.front 1 rfl).drop
     simpa using h9
    case measure => simp [intOf]; omega
  ·have hji : ¬ ((j : Int) < (ws.length : Int)) := by omega
   have HT := Eh (show zs = ws.filter (fun e => !ofE o (aE e)) by rw [wo.out, List.take_of_length_le (by omega)])
   have uY := Eh (Sat.set2b (vg.out.front 1 rfl) (.slice oa zs.length oc))
   go_upto_region 8 with fail
   obtain ⟨W8, hW8, hs8⟩ := Sat.hide uY.out
   rw [← hW8]
   clear hW8 uY vg q0 q1 qf
   obtain ⟨D2, hle2, hE2, hs9⟩ := dk (hs8.front 1 rfl) (fun e he => by rw [wo.out] at he; exact wQ.out.2 e (List.mem_of_mem_take (List.mem_filter.1 he).1))
   have hmap : zs.map aE = Q.waits.filter (fun e => !ofE o e) := by rw [HT.out, ← xJ.out, List.filter_map]; rfl
   have hfl := List.length_filter_le (fun e => !ofE o e) Q.waits
   have vU := Eh (bv (ak (hs9.blk 0 rfl)))
   have xN := Eh (iP (Q := ⟨Q.held, Q.waits.filter (fun e => !ofE o e)⟩) (show QueD D2 (.agg #[.slice ha hs.length hcp, .slice oa zs.length oc]) _ from ⟨_, _, hs, zs, rfl, HH.out.mono hle2, hE2, xL.out, hmap⟩) (by show Q.held.length + (Q.waits.filter (fun e => !ofE o e)).length ≤ 1000; omega) hs9)
   have vv := Eh hle2
   clear hs8 hs9 hE2 hle2 hmap
   go_wp2_with (first | (refine ai rfl _ _ rfl _ _ rfl _ vU.out ?_) | (go_at_call 143; refine xN.out.mono ?_; rintro e10 w10 ⟨v10, iv, D10, rfl, hle10, hq10, hs10⟩; have zQ := Eh hq10; obtain ⟨hv2, wv2, hs2, ws2, rfl, hH2, hW2, _, _⟩ := hq10; have xC := Eh (show ∀ u ∈ [hv2, wv2], u.oneCell' = true from fun u hu => by simp at hu; rcases hu with rfl | rfl; exact hH2.1.oneV; exact hW2.1.oneV); have wI := Eh hle10; have vo := Eh (hs10.front 2 rfl); clear hs10 hle10 hH2 hW2 xN vU) | (refine ap rfl _ _ _ rfl tRq b2 rfl [hv2, wv2] rfl nQ vo.out (by kernel_rfl) rfl xC.out ?_; intro w20 hs20; have vq := Eh hs20; clear hs20 vo))
   refine bodyPost_ret (aL rfl _ _ rfl (bv (ak (vq.out.blk 0 rfl)))) rfl ?_
   exact ⟨_, _, D10, rfl, vv.out.trans wI.out, zQ.out, vq.out.drop.swap.drop⟩
theorem pC {B w : World} {D : PH} {l : List HP} {v : Value} {Q : Qm Clm} (o : Int) (hq : QueD D v Q) (hM : Q.held.length + Q.waits.length ≤ 1000) (s : Sat B D w l) :
  Calls Tryz.prog 99 #[v, .int .i64 o] w (jw B D l (aY RC Q (ofE o))) := by
 obtain ⟨i0, hi, hz0, hz1, hz2⟩ := info_parts gJ
 have HI := Eh (And.intro hi (And.intro hz0 (And.intro hz1 hz2)))
 obtain ⟨hv, wv, hs, ws, rfl, hH, hW, hhq, hwq⟩ := hq
 obtain ⟨ha, hcp, rfl⟩ := hH.1.shape
 obtain ⟨wa, wc, rfl⟩ := hW.1.shape
 obtain ⟨W1, hW1, hs1⟩ := cG s #[.slice ha hs.length hcp, .slice wa ws.length wc] nQ tRq tRq
 have uW := Eh hW1
 have uX := Eh (show Sat B D W1 (fq (.slice none 0 0) [] :: _) from hs1.own_nil tRe 18)
 have HH := Eh hH
 have wQ := Eh hW
 have xL := Eh hhq
 have xJ := Eh hwq
 have hhl : hs.length ≤ Q.held.length ∧ Q.held.length ≤ hs.length := by have := congrArg List.length hhq; rw [List.length_map] at this; omega
 have hwl : ws.length ≤ Q.waits.length ∧ Q.waits.length ≤ ws.length := by have := congrArg List.length hwq; rw [List.length_map] at this; omega
 have hxl : hs.length ≤ 1000 := by omega
 clear hs1 hW1 s hi hz0 hz1 hz2 hH hW hhq hwq
 go_enter Tryz.func99, Tryz.ntmps99
 go_upto_region 1 with fail
 rw [← uW.out]
 clear uW
 generalize w.heap.size + 1 = b2 at *
 generalize w.heap.size = b1 at *
 go_wp2_with fail
 go_loopw [6, 7] (fun ot ii wr => ∃ (j : Nat) (oa : Option Addr) (oc : Nat) (zs : List EntE), ii = .int .i64 j ∧ ot = .slice oa zs.length oc ∧ j ≤ hs.length ∧ zs = (hs.take j).filter (fun e => !ofE o (aE e)) ∧ Sat B D wr (fq (.slice oa zs.length oc) zs :: blk b1 #[.slice ha hs.length hcp, .slice wa ws.length wc] tRq :: blk b2 nQ tRq :: l)) (fun _ ii _ => hs.length - (intOf ii).toNat)
 case atStart => exact ⟨0, none, 0, [], rfl, rfl, by omega, rfl, uX.out⟩
 case round =>
  obtain ⟨j, oa, oc, zs, rfl, rfl, hj, hzs, hs2⟩ := hrel
  have hle : zs.length ≤ j := by rw [hzs]; exact Nat.le_trans (List.length_filter_le _ _) (by rw [List.length_take]; omega)
  have wo := Eh hzs
  have vg := Eh hs2
  obtain ⟨q0, q1, qf⟩ := aJ (hs2.blk 1 rfl)
  clear hs2 hzs uX
  by_cases hlt : j < hs.length
  ·have hji : (j : Int) < (hs.length : Int) := by omega
   obtain ⟨x, hx⟩ : ∃ x, hs[j]? = some x := ⟨hs[j]'hlt, List.getElem?_eq_getElem _⟩
   obtain ⟨g, og, hg, hr, _, y0, _, _⟩ := dQ (HH.out.rd vg.out) rfl hx
   subst hg
   have HL := Eh (el hr)
   have HX := Eh hx
   by_cases ho : x.o = o
   ·have hne : (x.o != o) = false := by simpa using ho
    have HT := Eh (aW (q := fun e : EntE => !ofE o (aE e)) HX.out (by unfold ofE; simp [ho]))
    clear ho hx hr HL
    go_wp2_with fail
    go_roundw
    case rel => exact ⟨j + 1, oa, oc, zs, by go_num, rfl, by omega, by rw [HT.out]; exact wo.out, vg.out⟩
    case measure => simp [intOf]; omega
   ·have hne : (x.o != o) = true := by simpa using ho
    have HT := Eh (aR (q := fun e : EntE => !ofE o (aE e)) HX.out (by unfold ofE; simp [ho]))
    have uZ := Eh ((vg.out.alloc (ay x).toArray tRe).front 1 rfl)
    have vk := Eh (aS (size := 18) (n := 1) (uZ.out.blk 1 rfl) (by simp [bT]) (by unfold maxLen; omega))
    clear ho hx hr vg
    go_wp2_with (first | (refine ai rfl _ _ rfl _ _ rfl _ HL.out ?_) | (refine aD rfl _ _ rfl tRe i0 _ (ay x) rfl Tryz.underlying56 HI.out.1 HI.out.2.1 (HI.out.2.2.1.trans rfl) (by rw [bT]; decide) (by rw [bT]; decide) ?_) | (at_builtin; refine au _ rfl _ _ ew rfl tRe i0 _ 18 200 Tryz.underlying56 HI.out.1 HI.out.2.1 HI.out.2.2.1 HI.out.2.2.2 rfl _ zs.length _ rfl uZ.out _ 1 _ rfl vk.out (by simpa using eE x) (by unfold maxLen; omega) (by omega) ?_; intro v11 w11 hs11 h11; obtain ⟨va, vc, rfl⟩ := hs11.own_shape; have vl := Eh hs11; clear hs11 h11 uZ vk HL y0 q0 q1 qf))
    go_roundw
    case rel =>
     refine ⟨j + 1, va, vc, zs ++ [x], by go_num, by rw [List.length_append]; rfl, by omega, by rw [HT.out, wo.out], ?_⟩
     show Sat B D w11 (aI tRe 18 (.slice va (zs ++ [x]).length vc) (zs ++ [x]).length ((zs ++ [x]).flatMap ay) :: _)
     rw [List.length_append, List.flatMap_append]
     have h9 := (vl.out.front 1 rfl).drop
     simpa using h9
    case measure => simp [intOf]; omega
  ·have hji : ¬ ((j : Int) < (hs.length : Int)) := by omega
   have HT := Eh (show zs = hs.filter (fun e => !ofE o (aE e)) by rw [wo.out, List.take_of_length_le (by omega)])
   have uY := Eh (Sat.set2a (vg.out.front 1 rfl) (.slice oa zs.length oc))
   go_upto_region 8 with fail
   obtain ⟨W8, hW8, hs8⟩ := Sat.hide uY.out
   rw [← hW8]
   clear hW8 uY vg q0 q1 qf
   obtain ⟨D2, hle2, hE2, hs9⟩ := dk (hs8.front 1 rfl) (fun e he => by rw [wo.out] at he; exact HH.out.2 e (List.mem_of_mem_take (List.mem_filter.1 he).1))
   have hmap : zs.map aE = Q.held.filter (fun e => !ofE o e) := by rw [HT.out, ← xL.out, List.filter_map]; rfl
   have hfl := List.length_filter_le (fun e => !ofE o e) Q.held
   have vU := Eh (bv (ak (hs9.blk 0 rfl)))
   have xN := Eh (iP (Q := ⟨Q.held.filter (fun e => !ofE o e), Q.waits⟩) (show QueD D2 (.agg #[.slice oa zs.length oc, .slice wa ws.length wc]) _ from ⟨_, _, zs, ws, rfl, hE2, wQ.out.mono hle2, hmap, xJ.out⟩) (by show (Q.held.filter (fun e => !ofE o e)).length + Q.waits.length ≤ 1000; omega) hs9)
   have vv := Eh hle2
   clear hs8 hs9 hE2 hle2 hmap
   go_wp2_with (first | (refine ai rfl _ _ rfl _ _ rfl _ vU.out ?_) | (go_at_call 143; refine xN.out.mono ?_; rintro e10 w10 ⟨v10, iv, D10, rfl, hle10, hq10, hs10⟩; have zQ := Eh hq10; obtain ⟨hv2, wv2, hs2, ws2, rfl, hH2, hW2, _, _⟩ := hq10; have xC := Eh (show ∀ u ∈ [hv2, wv2], u.oneCell' = true from fun u hu => by simp at hu; rcases hu with rfl | rfl; exact hH2.1.oneV; exact hW2.1.oneV); have wI := Eh hle10; have vo := Eh (hs10.front 2 rfl); clear hs10 hle10 hH2 hW2 xN vU) | (refine ap rfl _ _ _ rfl tRq b2 rfl [hv2, wv2] rfl nQ vo.out (by kernel_rfl) rfl xC.out ?_; intro w20 hs20; have vq := Eh hs20; clear hs20 vo))
   refine bodyPost_ret (aL rfl _ _ rfl (bv (ak (vq.out.blk 0 rfl)))) rfl ?_
   exact ⟨_, _, D10, rfl, vv.out.trans wI.out, zQ.out, vq.out.drop.swap.drop⟩
def ClmsD (D : PH) (v : Value) (cs : List ClmE) : Prop := RdP D 16 v cs.length (cs.flatMap ClmE.cells) ∧ ∀ c ∈ cs, ClOk D c
theorem ClmsD.mono {D D' : PH} {v : Value} {cs : List ClmE} (h : ClmsD D v cs) (le : PH.le D D') : ClmsD D' v cs := ⟨h.1.mono le, fun c hc => (h.2 c hc).mono le⟩
theorem clmAt {B w : World} {D : PH} {l : List HP} {ao : Option Addr} {N cap j : Nat} {cs : List ClmE} {c : ClmE} (h : ClmsD D (.slice ao N cap) cs) (s : Sat B D w l) (hl : cs.length = N) (hc : cs[j]? = some c) :
  ∃ g o, ao = some ⟨g, o, none⟩ ∧ w.rangeAt g (o + j * 16) c.cells ∧ ClOk D c := by
 obtain ⟨g, o, hg, hr⟩ := aF ClmE.len (by have := h.1.rd s; rw [hl] at this; exact this) hc hl
 exact ⟨g, o, hg, hr, h.2 c (List.mem_of_getElem? hc)⟩
theorem mR {B w : World} {D : PH} {l : List HP} {v gv : Value} {Q : Qm Clm} {cs : List ClmE} (o : Int) (hq : QueD D v Q) (hg : ClmsD D gv cs) (hM : Q.held.length + Q.waits.length ≤ 1000) (s : Sat B D w l) :
  Calls Tryz.prog 103 #[v, .int .i64 o, gv] w (jw B D l (aY RC Q (cq o (cs.map ClmE.c)))) := by
 obtain ⟨i0, hi, hz0, hz1, hz2⟩ := info_parts gJ
 have HI := Eh (And.intro hi (And.intro hz0 (And.intro hz1 hz2)))
 obtain ⟨hv, wv, hs, ws, rfl, hH, hW, hhq, hwq⟩ := hq
 obtain ⟨ha, hcp, rfl⟩ := hH.1.shape
 obtain ⟨wa, wc, rfl⟩ := hW.1.shape
 obtain ⟨ga, gc, rfl⟩ := hg.1.shape
 have hgl := hg.1.len
 obtain ⟨W1, hW1, hs1⟩ := cG s #[.slice ha hs.length hcp, .slice wa ws.length wc] nQ tRq tRq
 have uW := Eh hW1
 have uX := Eh (show Sat B D W1 (fq (.slice none 0 0) [] :: _) from hs1.own_nil tRe 18)
 have HH := Eh hH
 have wQ := Eh hW
 have xL := Eh hhq
 have xJ := Eh hwq
 have HG := Eh hg
 have hhl : hs.length ≤ Q.held.length ∧ Q.held.length ≤ hs.length := by have := congrArg List.length hhq; rw [List.length_map] at this; omega
 have hwl : ws.length ≤ Q.waits.length ∧ Q.waits.length ≤ ws.length := by have := congrArg List.length hwq; rw [List.length_map] at this; omega
 have hxl : hs.length ≤ 1000 := by omega
 clear hs1 hW1 s hi hz0 hz1 hz2 hH hW hhq hwq hg
 go_enter Tryz.func103, Tryz.ntmps103
 go_upto_region 1 with fail
 rw [← uW.out]
 clear uW
 generalize w.heap.size + 1 = b2 at *
 generalize w.heap.size = b1 at *
 go_wp2_with fail
 go_loopw [8, 9] (fun ot ii wr => ∃ (j : Nat) (oa : Option Addr) (oc : Nat) (zs : List EntE), ii = .int .i64 j ∧ ot = .slice oa zs.length oc ∧ j ≤ hs.length ∧ zs = (hs.take j).filter (fun e => !cq o (cs.map ClmE.c) (aE e)) ∧ Sat B D wr (fq (.slice oa zs.length oc) zs :: blk b1 #[.slice ha hs.length hcp, .slice wa ws.length wc] tRq :: blk b2 nQ tRq :: l)) (fun _ ii _ => hs.length - (intOf ii).toNat)
 case atStart => exact ⟨0, none, 0, [], rfl, rfl, by omega, rfl, uX.out⟩
 case round =>
  obtain ⟨j, oa, oc, zs, rfl, rfl, hj, hzs, hs2⟩ := hrel
  have hle : zs.length ≤ j := by rw [hzs]; exact Nat.le_trans (List.length_filter_le _ _) (by rw [List.length_take]; omega)
  have wo := Eh hzs
  have vg := Eh hs2
  obtain ⟨q0, q1, qf⟩ := aJ (hs2.blk 1 rfl)
  clear hs2 hzs uX
  by_cases hlt : j < hs.length
  ·have hji : (j : Int) < (hs.length : Int) := by omega
   obtain ⟨x, hx⟩ : ∃ x, hs[j]? = some x := ⟨hs[j]'hlt, List.getElem?_eq_getElem _⟩
   have Cf := Eh (show cq o (cs.map ClmE.c) (aE x) = (decide (x.o = o) && cs.any (fun c => RC.same x.x.c c.c)) by unfold cq; rw [List.any_map]; rfl)
   have HX := Eh hx
   clear hx
   by_cases ho : x.o = o
   ·have hne : (x.o == o) = true := by simpa using ho
    rw [decide_eq_true ho] at Cf
    clear ho
    go_wp2_with fail
    clear q0 q1 qf
    go_loopw [10, 11] (fun st ii wr2 => ∃ (k : Nat) (b : Bool), ii = .int .i64 k ∧ st = .bool b ∧ k ≤ cs.length ∧ b = !((cs.take k).any (fun c => RC.same x.x.c c.c)) ∧ Sat B D wr2 (fq (.slice oa zs.length oc) zs :: blk b1 #[.slice ha hs.length hcp, .slice wa ws.length wc] tRq :: blk b2 nQ tRq :: l)) (fun _ ii _ => cs.length - (intOf ii).toNat)
    case atStart => exact ⟨0, true, rfl, rfl, Nat.zero_le _, rfl, vg.out⟩
    case round =>
     obtain ⟨k, b, rfl, rfl, hk, hb, hs3⟩ := hrel
     have HB := Eh hb
     have uY := Eh hs3
     obtain ⟨q0, q1, qf⟩ := aJ (hs3.blk 1 rfl)
     clear hb hs3 vg
     by_cases hkc : k < cs.length
     ·have hki : (k : Int) < (cs.length : Int) := by omega
      obtain ⟨c, hc⟩ : ∃ c, cs[k]? = some c := ⟨cs[k]'hkc, List.getElem?_eq_getElem _⟩
      have HC := Eh hc
      obtain ⟨g4, og4, hg4, _, hr2, y0, hre, _⟩ := dQ (HH.out.rd uY.out) rfl HX.out
      cases hg4
      obtain ⟨gg, gog, hgg, hgr, hok⟩ := clmAt HG.out uY.out rfl hc
      subst hgg
      have vt := Eh (az (w := wr.drew) hr2)
      have vr := Eh (az (w := wr.drew) hgr)
      have wx := Eh (eC (w := wr.drew) hre.drew (hok.rd uY.out.drew))
      obtain ⟨sm, hsm⟩ : ∃ sm, RC.same x.x.c c.c = sm := ⟨_, rfl⟩
      rw [hsm] at wx
      have AZ := Eh hsm
      clear hc hr2 hre hgr hok hsm
      go_upto_region 9 with fail
      refine ag [(0, false, 10), (1, false, 10), (2, false, 10), (3, false, 10), (4, false, 10), (5, false, 10), (6, false, 10), (7, false, 10), (8, false, 10), (9, false, 10), (10, true, 0), (11, false, 999)] (by kernel_rfl) (by kernel_rfl) ?_
      iterate 10 (refine af rfl rfl (fun K hK => ?_); (first | ((refine aj _ _ rfl _ _ rfl _ vt.out ?_); go_simp) | ((refine aj _ _ rfl _ _ rfl _ vr.out ?_); go_simp) | go_simp); refine hK _ ?_; clear hK K)
      refine al rfl ?_
      refine aw rfl (fun K hK => ?_)
      go_simp
      refine wx.out.mono ?_
      rintro e6 w6 ⟨rfl, hk6⟩
      have vi := Eh (uY.out.drew.kept hk6)
      clear hk6 wx vt vr uY q0 q1 qf y0
      refine hK _ _ ?_
      clear hK K
      refine wpList_nil ?_
      refine And.intro ?_ ?_
      ·go_simp
      refine af rfl rfl (fun K hK => ?_); (first | ((refine aj _ _ rfl _ _ rfl _ vt.out ?_); go_simp) | ((refine aj _ _ rfl _ _ rfl _ vr.out ?_); go_simp) | go_simp); refine hK _ ?_; clear hK K
      refine ar ?_
      have HN := Eh (show (b && !sm) = !((cs.take (k + 1)).any (fun c => RC.same x.x.c c.c)) by rw [dR _ HC.out, Bool.not_or, ← HB.out, AZ.out])
      cases b <;> cases sm
      all_goals
       go_wp2_with fail
       go_roundw
       case rel => exact ⟨k + 1, _, by go_num, rfl, by omega, HN.out, vi.out⟩
       case measure => simp [intOf]; omega
     ·have hki : ¬ ((k : Int) < (cs.length : Int)) := by omega
      have xN := Eh (show cq o (cs.map ClmE.c) (aE x) = !b by rw [Cf.out, HB.out, List.take_of_length_le (by omega), Bool.not_not]; rfl)
      clear q0 q1 qf
      cases b
      ·skip
       have HT := Eh (aW (q := fun e : EntE => !cq o (cs.map ClmE.c) (aE e)) HX.out (by rw [xN.out]; rfl))
       go_wp2_with fail
       go_roundw
       case rel => exact ⟨j + 1, oa, oc, zs, by go_num, rfl, by omega, by rw [HT.out]; exact wo.out, uY.out⟩
       case measure => simp [intOf]; omega
      ·go_upto_region 11 with fail
       have HT := Eh (aR (q := fun e : EntE => !cq o (cs.map ClmE.c) (aE e)) HX.out (by rw [xN.out]; rfl))
       obtain ⟨q0, q1, qf⟩ := aJ (uY.out.blk 1 rfl)
       obtain ⟨g5, og5, hg5, hr, _, y0, _, _⟩ := dQ (HH.out.rd uY.out) rfl HX.out
       cases hg5
       have HL := Eh (el hr)
       have uZ := Eh ((uY.out.alloc (ay x).toArray tRe).front 1 rfl)
       have vk := Eh (aS (size := 18) (n := 1) (uZ.out.blk 1 rfl) (by simp [bT]) (by unfold maxLen; omega))
       clear hr uY
       go_wp2_with (first | (refine ai rfl _ _ rfl _ _ rfl _ HL.out ?_) | (refine aD rfl _ _ rfl tRe i0 _ (ay x) rfl Tryz.underlying56 HI.out.1 HI.out.2.1 (HI.out.2.2.1.trans rfl) (by rw [bT]; decide) (by rw [bT]; decide) ?_) | (at_builtin; refine au _ rfl _ _ ew rfl tRe i0 _ 18 200 Tryz.underlying56 HI.out.1 HI.out.2.1 HI.out.2.2.1 HI.out.2.2.2 rfl _ zs.length _ rfl uZ.out _ 1 _ rfl vk.out (by simpa using eE x) (by unfold maxLen; omega) (by omega) ?_; intro v11 w11 hs11 h11; obtain ⟨va, vc, rfl⟩ := hs11.own_shape; have vl := Eh hs11; clear hs11 h11 uZ vk HL y0 q0 q1 qf))
       go_roundw
       case rel =>
        refine ⟨j + 1, va, vc, zs ++ [x], by go_num, by rw [List.length_append]; rfl, by omega, by rw [HT.out, wo.out], ?_⟩
        show Sat B D w11 (aI tRe 18 (.slice va (zs ++ [x]).length vc) (zs ++ [x]).length ((zs ++ [x]).flatMap ay) :: _)
        rw [List.length_append, List.flatMap_append]
        have h9 := (vl.out.front 1 rfl).drop
        simpa using h9
       case measure => simp [intOf]; omega
   ·have hne : (x.o == o) = false := by simpa using ho
    rw [decide_eq_false ho] at Cf
    have xN := Eh (show cq o (cs.map ClmE.c) (aE x) = false by rw [Cf.out]; rfl)
    clear ho
    go_wp2_with fail
    clear q0 q1 qf
    go_loopw [10, 11] (fun st ii wr2 => ii = .int .i64 0 ∧ st = .bool true ∧ Sat B D wr2 (fq (.slice oa zs.length oc) zs :: blk b1 #[.slice ha hs.length hcp, .slice wa ws.length wc] tRq :: blk b2 nQ tRq :: l)) (fun _ ii _ => 0)
    case atStart => exact ⟨rfl, rfl, vg.out⟩
    case round =>
     obtain ⟨rfl, rfl, hs3⟩ := hrel
     have uY := Eh hs3
     clear hs3 vg
     by_cases hkc : 0 < cs.length
     ·have hki : (0 : Int) < (cs.length : Int) := by omega
      obtain ⟨q0, q1, qf⟩ := aJ (uY.out.blk 1 rfl)
      obtain ⟨g4, og4, hg4, _, _, y0, _, _⟩ := dQ (HH.out.rd uY.out) rfl HX.out
      cases hg4
      go_upto_region 11 with fail
      clear q0 q1 qf y0
      have HT := Eh (aR (q := fun e : EntE => !cq o (cs.map ClmE.c) (aE e)) HX.out (by rw [xN.out]; rfl))
      obtain ⟨q0, q1, qf⟩ := aJ (uY.out.blk 1 rfl)
      obtain ⟨g5, og5, hg5, hr, _, y0, _, _⟩ := dQ (HH.out.rd uY.out) rfl HX.out
      cases hg5
      have HL := Eh (el hr)
      have uZ := Eh ((uY.out.alloc (ay x).toArray tRe).front 1 rfl)
      have vk := Eh (aS (size := 18) (n := 1) (uZ.out.blk 1 rfl) (by simp [bT]) (by unfold maxLen; omega))
      clear hr uY
      go_wp2_with (first | (refine ai rfl _ _ rfl _ _ rfl _ HL.out ?_) | (refine aD rfl _ _ rfl tRe i0 _ (ay x) rfl Tryz.underlying56 HI.out.1 HI.out.2.1 (HI.out.2.2.1.trans rfl) (by rw [bT]; decide) (by rw [bT]; decide) ?_) | (at_builtin; refine au _ rfl _ _ ew rfl tRe i0 _ 18 200 Tryz.underlying56 HI.out.1 HI.out.2.1 HI.out.2.2.1 HI.out.2.2.2 rfl _ zs.length _ rfl uZ.out _ 1 _ rfl vk.out (by simpa using eE x) (by unfold maxLen; omega) (by omega) ?_; intro v11 w11 hs11 h11; obtain ⟨va, vc, rfl⟩ := hs11.own_shape; have vl := Eh hs11; clear hs11 h11 uZ vk HL y0 q0 q1 qf))
      go_roundw
      case rel =>
       refine ⟨j + 1, va, vc, zs ++ [x], by go_num, by rw [List.length_append]; rfl, by omega, by rw [HT.out, wo.out], ?_⟩
       show Sat B D w11 (aI tRe 18 (.slice va (zs ++ [x]).length vc) (zs ++ [x]).length ((zs ++ [x]).flatMap ay) :: _)
       rw [List.length_append, List.flatMap_append]
       have h9 := (vl.out.front 1 rfl).drop
       simpa using h9
      case measure => simp [intOf]; omega
     ·have hki : ¬ ((0 : Int) < (cs.length : Int)) := by omega
      go_upto_region 11 with fail
      have HT := Eh (aR (q := fun e : EntE => !cq o (cs.map ClmE.c) (aE e)) HX.out (by rw [xN.out]; rfl))
      obtain ⟨q0, q1, qf⟩ := aJ (uY.out.blk 1 rfl)
      obtain ⟨g5, og5, hg5, hr, _, y0, _, _⟩ := dQ (HH.out.rd uY.out) rfl HX.out
      cases hg5
      have HL := Eh (el hr)
      have uZ := Eh ((uY.out.alloc (ay x).toArray tRe).front 1 rfl)
      have vk := Eh (aS (size := 18) (n := 1) (uZ.out.blk 1 rfl) (by simp [bT]) (by unfold maxLen; omega))
      clear hr uY
      go_wp2_with (first | (refine ai rfl _ _ rfl _ _ rfl _ HL.out ?_) | (refine aD rfl _ _ rfl tRe i0 _ (ay x) rfl Tryz.underlying56 HI.out.1 HI.out.2.1 (HI.out.2.2.1.trans rfl) (by rw [bT]; decide) (by rw [bT]; decide) ?_) | (at_builtin; refine au _ rfl _ _ ew rfl tRe i0 _ 18 200 Tryz.underlying56 HI.out.1 HI.out.2.1 HI.out.2.2.1 HI.out.2.2.2 rfl _ zs.length _ rfl uZ.out _ 1 _ rfl vk.out (by simpa using eE x) (by unfold maxLen; omega) (by omega) ?_; intro v11 w11 hs11 h11; obtain ⟨va, vc, rfl⟩ := hs11.own_shape; have vl := Eh hs11; clear hs11 h11 uZ vk HL y0 q0 q1 qf))
      go_roundw
      case rel =>
       refine ⟨j + 1, va, vc, zs ++ [x], by go_num, by rw [List.length_append]; rfl, by omega, by rw [HT.out, wo.out], ?_⟩
       show Sat B D w11 (aI tRe 18 (.slice va (zs ++ [x]).length vc) (zs ++ [x]).length ((zs ++ [x]).flatMap ay) :: _)
       rw [List.length_append, List.flatMap_append]
       have h9 := (vl.out.front 1 rfl).drop
       simpa using h9
      case measure => simp [intOf]; omega
  ·have hji : ¬ ((j : Int) < (hs.length : Int)) := by omega
   have HT := Eh (show zs = hs.filter (fun e => !cq o (cs.map ClmE.c) (aE e)) by rw [wo.out, List.take_of_length_le (by omega)])
   have uY := Eh (Sat.set2a (vg.out.front 1 rfl) (.slice oa zs.length oc))
   go_upto_region 14 with fail
   obtain ⟨W8, hW8, hs8⟩ := Sat.hide uY.out
   rw [← hW8]
   clear hW8 uY vg q0 q1 qf
   obtain ⟨D2, hle2, hE2, hs9⟩ := dk (hs8.front 1 rfl) (fun e he => by rw [wo.out] at he; exact HH.out.2 e (List.mem_of_mem_take (List.mem_filter.1 he).1))
   have hmap : zs.map aE = Q.held.filter (fun e => !cq o (cs.map ClmE.c) e) := by rw [HT.out, ← xL.out, List.filter_map]; rfl
   have hfl := List.length_filter_le (fun e => !cq o (cs.map ClmE.c) e) Q.held
   have vU := Eh (bv (ak (hs9.blk 0 rfl)))
   have xN := Eh (iP (Q := ⟨Q.held.filter (fun e => !cq o (cs.map ClmE.c) e), Q.waits⟩) (show QueD D2 (.agg #[.slice oa zs.length oc, .slice wa ws.length wc]) _ from ⟨_, _, zs, ws, rfl, hE2, wQ.out.mono hle2, hmap, xJ.out⟩) (by show (Q.held.filter (fun e => !cq o (cs.map ClmE.c) e)).length + Q.waits.length ≤ 1000; omega) hs9)
   have vv := Eh hle2
   clear hs8 hs9 hE2 hle2 hmap
   go_wp2_with (first | (refine ai rfl _ _ rfl _ _ rfl _ vU.out ?_) | (go_at_call 143; refine xN.out.mono ?_; rintro e10 w10 ⟨v10, iv, D10, rfl, hle10, hq10, hs10⟩; have zQ := Eh hq10; obtain ⟨hv2, wv2, hs2, ws2, rfl, hH2, hW2, _, _⟩ := hq10; have xC := Eh (show ∀ u ∈ [hv2, wv2], u.oneCell' = true from fun u hu => by simp at hu; rcases hu with rfl | rfl; exact hH2.1.oneV; exact hW2.1.oneV); have wI := Eh hle10; have vo := Eh (hs10.front 2 rfl); clear hs10 hle10 hH2 hW2 xN vU) | (refine ap rfl _ _ _ rfl tRq b2 rfl [hv2, wv2] rfl nQ vo.out (by kernel_rfl) rfl xC.out ?_; intro w20 hs20; have vq := Eh hs20; clear hs20 vo))
   refine bodyPost_ret (aL rfl _ _ rfl (bv (ak (vq.out.blk 0 rfl)))) rfl ?_
   exact ⟨_, _, D10, rfl, vv.out.trans wI.out, zQ.out, vq.out.drop.swap.drop⟩
abbrev tCs : TypeId := 45
theorem jZ {B w : World} {D : PH} {l : List HP} {v : Value} {cs : List ClmE} (h : Sat B D w (gx v cs :: l)) (hz : ∀ c ∈ cs, ClOk D c) : ∃ D', PH.le D D' ∧ ClmsD D' v cs ∧ Sat B D' w l := by
 obtain ⟨D', hle, hrd, hs⟩ := h.own_give
 exact ⟨D', hle, ⟨hrd, fun e he => (hz e he).mono hle⟩, hs⟩
def ClmsGot (B : World) (D : PH) (l : List HP) (L : List Clm) (r : Ending) (w' : World) : Prop := ∃ (v : Value) (cs : List ClmE) (D' : PH), r = .returned v ∧ PH.le D D' ∧ ClmsD D' v cs ∧ cs.map ClmE.c = L ∧ Sat B D' w' l
theorem gI {B w : World} {D : PH} {l : List HP} {v : Value} {Q : Qm Clm} (o : Int) (hq : QueD D v Q) (hM : Q.held.length ≤ 1000) (s : Sat B D w l) :
  Calls Tryz.prog 34 #[v, .int .i64 o] w (ClmsGot B D l (aN Q o)) := by
 obtain ⟨i0, hi, hz0, hz1, hz2⟩ := info_parts lI
 have HI := Eh (And.intro hi (And.intro hz0 (And.intro hz1 hz2)))
 obtain ⟨hv, wv, hs, ws, rfl, hH, hW, hhq, hwq⟩ := hq
 obtain ⟨ha, hcp, rfl⟩ := hH.1.shape
 obtain ⟨W1, hW1, hs1⟩ := Sat.hide (s.alloc #[.slice ha hs.length hcp, wv] tRq)
 have uW := Eh hW1
 have uX := Eh (show Sat B D W1 (gx (.slice none 0 0) [] :: _) from hs1.own_nil tCl 16)
 have HH := Eh hH
 have xL := Eh hhq
 have hxl : hs.length ≤ 1000 := by rw [← List.length_map (f := aE), hhq]; exact hM
 clear hs1 hW1 s hi hz0 hz1 hz2 hH hW hhq hwq
 go_enter Tryz.func34, Tryz.ntmps34
 go_upto_region 1 with fail
 rw [← uW.out]
 clear uW
 generalize w.heap.size = b1 at *
 go_wp2_with fail
 go_loopw [5, 6] (fun ot ii wr => ∃ (j : Nat) (oa : Option Addr) (oc : Nat), ii = .int .i64 j ∧ ot = .slice oa (cr hs o j).length oc ∧ j ≤ hs.length ∧ Sat B D wr (gx (.slice oa (cr hs o j).length oc) (cr hs o j) :: blk b1 #[.slice ha hs.length hcp, wv] tRq :: l)) (fun _ ii _ => hs.length - (intOf ii).toNat)
 case atStart => exact ⟨0, none, 0, rfl, rfl, by omega, uX.out⟩
 case round =>
  obtain ⟨j, oa, oc, rfl, rfl, hj, hs2⟩ := hrel
  have hle := kM hs o j
  have vg := Eh hs2
  obtain ⟨q0, q1, qf⟩ := aJ (hs2.blk 1 rfl)
  clear hs2 uX
  by_cases hlt : j < hs.length
  ·have hji : (j : Int) < (hs.length : Int) := by omega
   obtain ⟨x, hx⟩ : ∃ x, hs[j]? = some x := ⟨hs[j]'hlt, List.getElem?_eq_getElem _⟩
   obtain ⟨g, og, hg, _, hr2, y0, _, _⟩ := dQ (HH.out.rd vg.out) rfl hx
   subst hg
   have HL := Eh (az hr2)
   by_cases ho : x.o = o
   ·have hne : (x.o == o) = true := by simpa using ho
    have HT := Eh (kk hx ho)
    generalize hcs : cr hs o j = cs at *
    have uZ := Eh ((vg.out.alloc x.x.cells.toArray tCl).front 1 rfl)
    have vk := Eh (aS (size := 16) (n := 1) (uZ.out.blk 1 rfl) rfl (by unfold maxLen; omega))
    clear ho hx hr2 vg hcs
    go_wp2_with (first | (refine ai rfl _ _ rfl _ _ rfl _ HL.out ?_) | (refine aD rfl _ _ rfl tCl i0 _ x.x.cells rfl Tryz.underlying45 HI.out.1 HI.out.2.1 (HI.out.2.2.1.trans rfl) (by rw [ClmE.len]; decide) (by rw [ClmE.len]; decide) ?_) | (at_builtin; refine au _ rfl _ _ tCs rfl tCl i0 _ 16 184 Tryz.underlying45 HI.out.1 HI.out.2.1 HI.out.2.2.1 HI.out.2.2.2 rfl _ cs.length _ rfl uZ.out _ 1 _ rfl vk.out (by simpa using ClmE.one x.x) (by unfold maxLen; omega) (by omega) ?_; intro v11 w11 hs11 h11; obtain ⟨va, vc, rfl⟩ := hs11.own_shape; have vl := Eh hs11; clear hs11 h11 uZ vk HL y0 q0 q1 qf))
    go_roundw
    case rel =>
     refine ⟨j + 1, va, vc, by go_num, by rw [HT.out, List.length_append]; rfl, by omega, ?_⟩
     rw [HT.out]
     show Sat B D w11 (aI tCl 16 (.slice va (cs ++ [x.x]).length vc) (cs ++ [x.x]).length ((cs ++ [x.x]).flatMap ClmE.cells) :: _)
     rw [List.length_append, List.flatMap_append]
     have h9 := (vl.out.front 1 rfl).drop
     simpa using h9
    case measure => simp [intOf]; omega
   ·have hne : (x.o == o) = false := by simpa using ho
    have HT := Eh (lg hx ho)
    clear ho hx hr2 HL
    go_wp2_with fail
    go_roundw
    case rel => exact ⟨j + 1, oa, oc, by go_num, by rw [HT.out], by omega, by rw [HT.out]; exact vg.out⟩
    case measure => simp [intOf]; omega
  ·have hji : ¬ ((j : Int) < (hs.length : Int)) := by omega
   obtain rfl : j = hs.length := by omega
   have HT := Eh (km o xL.out)
   go_wp2_with fail
   go_ret
   obtain ⟨D', hle', he, hs9⟩ := jZ vg.out (fun y hy => by
    unfold cr at hy
    obtain ⟨e, he, rfl⟩ := List.mem_map.1 hy
    exact (HH.out.2 e (List.mem_of_mem_take (List.mem_filter.1 he).1)).1)
   exact ⟨_, _, D', rfl, hle', he, HT.out, hs9.drop⟩
end Go.Proofs.YtgljdkjepdknnaaGreatDoor
