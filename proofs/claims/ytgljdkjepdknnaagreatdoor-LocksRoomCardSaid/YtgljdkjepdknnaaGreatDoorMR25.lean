/- Joined texts: The document's queue as a value whose rows lie in the pool; who waits (ratlineref10.Queue.Waiting, waiting). The document's queue: does an owner wait (ratlineref10.Queue.waiting); those that want more (mores). -/
import Derived.Test.YtgljdkjepdknnaaGreatDoorMR24
import Derived.Test.YtgljdkjepdknnaaGreatDoorMR20
/- The document's queue as a value whose rows lie in the pool; who waits (ratlineref10.Queue.Waiting, waiting). -/
namespace Go.Proofs.YtgljdkjepdknnaaGreatDoor
open Go.ChangeShapes Go.WideShapes Go.ChangeAt Go.RowKit
set_option maxRecDepth 100000
set_option linter.unusedSimpArgs false

/-- a row of entries that lies in the pool -/
def EntsD (D : PH) (v : Value) (hs : List EntE) : Prop := RdP D 18 v hs.length (hs.flatMap cellsC) ∧ ∀ e ∈ hs, ClOk D e.x ∧ ClmFit e.x.c
theorem EntsD.mono {D D' : PH} {v : Value} {hs : List EntE} (h : EntsD D v hs) (le : PH.le D D') : EntsD D' v hs := ⟨h.1.mono le, fun e he => ⟨(h.2 e he).1.mono le, (h.2 e he).2⟩⟩
theorem EntsD.rd {B w : World} {D : PH} {l : List HP} {v : Value} {hs : List EntE} (h : EntsD D v hs) (s : Sat B D w l) : EntsRd w v hs := ⟨h.1.rd s, fun e he => (h.2 e he).1.rd s, fun e he => (h.2 e he).2⟩
/-- the document's queue -/
def QueD (D : PH) (v : Value) (Q : Qm Clm) : Prop := ∃ (hv wv : Value) (hs ws : List EntE), v = .agg #[hv, wv] ∧ EntsD D hv hs ∧ EntsD D wv ws ∧ hs.map entC = Q.held ∧ ws.map entC = Q.waits
theorem QueD.mono {D D' : PH} {v : Value} {Q : Qm Clm} (h : QueD D v Q) (le : PH.le D D') : QueD D' v Q := by
 obtain ⟨hv, wv, hs, ws, a, b, c, d, e⟩ := h
 exact ⟨hv, wv, hs, ws, a, b.mono le, c.mono le, d, e⟩
theorem waitsQ_at {Q : Qm Clm} {ws : List EntE} {o : Int} {j : Nat} {e : EntE} (hw : ws.map entC = Q.waits) (h : (ws.take j).any (fun e => decide (e.o = o)) = false) (he : ws[j]? = some e) (ho : e.o = o) : waitsQ Q o = (e.x.c, true) := by
 have hlt : j < ws.length := (List.getElem?_eq_some_iff.1 he).1
 have hf : waitAt Q.waits o = some j := by
  unfold waitAt
  rw [← hw, List.findIdx?_map, List.findIdx?_eq_some_iff_getElem]
  refine ⟨hlt, ?_, fun i hi => ?_⟩
  ·rw [(List.getElem?_eq_some_iff.1 he).2]
   show decide (e.o = o) = true
   exact decide_eq_true ho
  ·have := none_before h (ws[i]'(by omega)) (List.mem_take_iff_getElem.2 ⟨i, by omega, rfl⟩)
   show ¬ decide ((ws[i]'(by omega)).o = o) = true
   rw [this]; simp
 unfold waitsQ
 rw [hf]
 dsimp only
 rw [← hw, List.getElem?_map, he]
 rfl
theorem waitsQ_no {Q : Qm Clm} {ws : List EntE} {o : Int} (hw : ws.map entC = Q.waits) (h : ws.any (fun e => decide (e.o = o)) = false) : waitsQ Q o = (clm0, false) := by
 have hf : waitAt Q.waits o = none := by
  unfold waitAt
  rw [← hw, List.findIdx?_map, List.findIdx?_eq_none_iff]
  intro e he
  have : (fun e : EntE => decide (e.o = o)) e = false := by
   rw [Bool.eq_false_iff]; intro hp; rw [List.any_eq_true.2 ⟨e, he, hp⟩] at h; cases h
  exact this
 unfold waitsQ
 rw [hf]
def RWaitC (B : World) (D : PH) (l : List HP) (Q : Qm Clm) (o : Int) (r : Ending) (w' : World) : Prop := ∃ z : ClmE, r = .returned (.tuple #[.agg z.cells.toArray, .bool (waitsQ Q o).2]) ∧ z.c = (waitsQ Q o).1 ∧ ClOk D z ∧ ((waitsQ Q o).2 = true → ClmFit z.c) ∧ Sat B D w' l
set_option maxHeartbeats 8000000 in
theorem rqWaiting_ok {B w : World} {D : PH} {l : List HP} {v : Value} {Q : Qm Clm} (o : Int) (hq : QueD D v Q) (hs : Sat B D w l) :
  Calls Tryz.prog 32 #[v, .int .i64 o] w (RWaitC B D l Q o) := by
 obtain ⟨hv, wv, hs', ws, rfl, _, hW, _, hwq⟩ := hq
 obtain ⟨W1, hW1, hs1⟩ := two_new hs #[hv, wv] cZ 58 tCl
 obtain ⟨a, c, rfl, n1, m1, _⟩ := (hW.rd hs1).shape
 have HW1 := Lib.hid hW1
 have HS1 := Lib.hid hs1
 have HWD := Lib.hid hW
 have HWQ := Lib.hid hwq
 obtain ⟨N, hN⟩ : ∃ N, ws.length = N := ⟨_, rfl⟩
 have HN := Lib.hid hN
 rw [hN] at HWD n1 m1 HW1 HS1 ⊢
 clear hW1 hs hs1 hW hwq hN
 go_enter Tryz.func32, Tryz.ntmps32
 go_upto_region 1 with fail
 rw [← HW1.out]
 clear HW1
 generalize w.heap.size + 1 = b2 at *
 generalize w.heap.size = b1 at *
 go_wp2_with fail
 go_loopw [6] (fun i wr => ∃ j : Nat, i = .int .i64 j ∧ j ≤ N ∧ (ws.take j).any (fun e => decide (e.o = o)) = false ∧ Sat B D wr (blk b1 #[hv, .slice a N c] 58 :: blk b2 cZ tCl :: l)) (fun i _ => N - (intOf i).toNat)
 case atStart => exact ⟨0, rfl, by omega, rfl, HS1.out⟩
 case round =>
  obtain ⟨j, rfl, hj, hn, hs⟩ := hrel
  have HNO := Lib.hid hn
  have HS := Lib.hid hs
  obtain ⟨_, q1, _⟩ := cells2 (hs.blk 0 rfl)
  clear hn hs
  by_cases hlt : j < N
  ·have hji : (j : Int) < (N : Int) := by omega
   obtain ⟨e, he⟩ : ∃ e, ws[j]? = some e := ⟨ws[j]'(by rw [HN.out]; exact hlt), List.getElem?_eq_getElem _⟩
   obtain ⟨g, og, hg, _, hr2, y0, hre, hfe⟩ := entAt (HWD.out.rd HS.out) HN.out he
   have HEJ := Lib.hid he
   subst hg
   by_cases ho : e.o = o
   ·have hne : (e.o == o) = true := by simpa using ho
    have HR := Lib.hid (waitsQ_at HWQ.out HNO.out he ho)
    have HL := Lib.hid (loadCl hr2)
    have HOK := Lib.hid (HWD.out.2 e (List.mem_of_getElem? he))
    have HSX := Lib.hid (HS.out.front 1 rfl)
    clear he ho hr2 hre hfe HS
    go_wp2_with (first | (refine wpList_ld rfl _ _ rfl _ _ rfl _ HL.out ?_) | (refine wpList_store_whole rfl _ _ _ rfl tCl b2 rfl e.x.cells rfl cZ HSX.out (by kernel_rfl) rfl (ClmE.one _) ?_; intro w6 hs6; have HS6 := Lib.hid hs6; clear hs6 HSX HL q1 y0))
    refine bodyPost_ret (results_c2 rfl _ _ rfl (loadCl (blk_range (HS6.out.blk 0 rfl)))) rfl ?_
    refine ⟨e.x, ?_, ?_, HOK.out.1, fun _ => HOK.out.2, HS6.out.drop.drop⟩
    ·rw [HR.out]; rfl
    ·rw [HR.out]
   ·have hne : (e.o == o) = false := by simpa using ho
    have HQ := Lib.hid (show decide (e.o = o) = false from decide_eq_false ho)
    clear he ho hr2 hre hfe
    go_wp2_with fail
    go_roundw
    case rel => exact ⟨j + 1, by go_num, by omega, by rw [any_snoc _ HEJ.out, HNO.out, HQ.out]; rfl, HS.out⟩
    case measure => simp [intOf]; omega
  ·have hji : ¬ ((j : Int) < (N : Int)) := by omega
   obtain rfl : j = N := by omega
   have HR := Lib.hid (waitsQ_no (Q := Q) (o := o) HWQ.out (by have := HNO.out; rw [List.take_of_length_le (Nat.le_of_eq HN.out)] at this; exact this))
   have HSX := Lib.hid (HS.out.front 1 rfl)
   clear HS
   go_wp2_with (first | (refine wpList_build_cl0w rfl rfl ?_) | (refine wpList_store_whole rfl _ _ _ rfl tCl b2 rfl cl0.cells rfl cZ HSX.out (by kernel_rfl) rfl (ClmE.one _) ?_; intro w6 hs6; have HS6 := Lib.hid hs6; clear hs6 HSX q1))
   refine bodyPost_ret (results_c2 rfl _ _ rfl (loadCl (blk_range (HS6.out.blk 0 rfl)))) rfl ?_
   refine ⟨cl0, ?_, ?_, cl0_ok D, ?_, HS6.out.drop.drop⟩
   ·rw [HR.out]; rfl
   ·rw [HR.out]; rfl
   ·rw [HR.out]; intro h; cases h
end Go.Proofs.YtgljdkjepdknnaaGreatDoor

/- The document's queue: does an owner wait (ratlineref10.Queue.waiting); those that want more (mores). -/
namespace Go.Proofs.YtgljdkjepdknnaaGreatDoor
open Go.ChangeShapes Go.WideShapes Go.ChangeAt Go.RowKit
set_option maxRecDepth 100000
set_option linter.unusedSimpArgs false

abbrev tRe : TypeId := 101
abbrev tRq : TypeId := 58
theorem infoRe : (Tryz.prog.info? tRe).map (fun i => (i.zero, i.size, i.bytes)) = some (some (.agg #[.int .i64 0, .int .i64 0, .int .i64 0, .int .i64 0, .bool false, .int .i64 0, .string ⟨#[]⟩, .slice none 0 0, .int .i64 0, .int .i64 0, .bool false, .int .i64 0, .string ⟨#[]⟩, .bool false, .int .i64 0, .string ⟨#[]⟩, .slice none 0 0, .bool false]), 18, 200) := by kernel_rfl
theorem loadRe {w : World} {g o : Nat} {e : EntE} (h : w.rangeAt g o (cellsC e)) : (loadVar tRe ⟨g, o, none⟩).run Tryz.prog w = .ok (.agg (cellsC e).toArray) w := run_loadVar_mid w g o _ _ _ h Tryz.underlying101 rfl (by kernel_rfl)
theorem loadQ2 {w : World} {g o : Nat} {a b : Value} (h : w.rangeAt g o [a, b]) : (loadVar tRq ⟨g, o, none⟩).run Tryz.prog w = .ok (.agg #[a, b]) w := run_loadVar_mid w g o _ _ _ h Tryz.underlying58 rfl (by kernel_rfl)
abbrev entsR (v : Value) (zs : List EntE) : HP := ownS tRe 18 v zs.length (zs.flatMap cellsC)
theorem entsR_give {B w : World} {D : PH} {l : List HP} {v : Value} {zs : List EntE} (h : Sat B D w (entsR v zs :: l)) (hz : ∀ e ∈ zs, ClOk D e.x ∧ ClmFit e.x.c) : ∃ D', PH.le D D' ∧ EntsD D' v zs ∧ Sat B D' w l := by
 obtain ⟨D', hle, hrd, hs⟩ := h.own_give
 exact ⟨D', hle, ⟨hrd, fun e he => ⟨(hz e he).1.mono hle, (hz e he).2⟩⟩, hs⟩
def EntsGot (B : World) (D : PH) (l : List HP) (zs : List EntE) (r : Ending) (w' : World) : Prop := ∃ (v : Value) (D' : PH), r = .returned v ∧ PH.le D D' ∧ EntsD D' v zs ∧ Sat B D' w' l
set_option maxHeartbeats 8000000 in
theorem rqWaits_ok {B w : World} {D : PH} {l : List HP} {v : Value} {Q : Qm Clm} (o : Int) (hq : QueD D v Q) (hs : Sat B D w l) :
  Calls Tryz.prog 144 #[v, .int .i64 o] w fun r w' => r = .returned (.bool (waitsQ Q o).2) ∧ Sat B D w' l := by
 have hq' := hq
 obtain ⟨hv, wv, hs', ws, rfl, _, hW, _, hwq⟩ := hq
 have HC := Lib.hid (rqWaiting_ok o hq' (hs.alloc #[hv, wv] tRq))
 have HL := Lib.hid (loadQ2 (blk_range ((hs.alloc #[hv, wv] tRq).blk 0 rfl)))
 clear hs hq' hW hwq
 go_enter Tryz.func144, Tryz.ntmps144
 go_upto_region 1 with fail
 go_wp2_with (first | (refine wpList_ld rfl _ _ rfl _ _ rfl _ HL.out ?_) | (go_at_call 32; refine HC.out.mono ?_; rintro e1 w1 ⟨z, rfl, _, _, _, hs1⟩; have HS1 := Lib.hid (hs1.alloc z.cells.toArray tCl); clear hs1 HC HL) | (refine wpList_store_new rfl _ _ _ rfl z.cells _ _ rfl rfl (by kernel_rfl) rfl (ClmE.one _) ?_))
 go_ret
 exact ⟨rfl, HS1.out.drop.drop⟩
set_option maxHeartbeats 8000000 in
theorem rqMores_ok {B w : World} {D : PH} {l : List HP} {v : Value} {hs : List EntE} (h : EntsD D v hs) (hM : hs.length ≤ 100000) (s : Sat B D w l) :
  Calls Tryz.prog 147 #[v] w (EntsGot B D l (hs.filter (fun e => e.more))) := by
 obtain ⟨i0, hi, hz0, hz1, hz2⟩ := info_parts infoRe
 have HI := Lib.hid (And.intro hi (And.intro hz0 (And.intro hz1 hz2)))
 obtain ⟨a, c, rfl, n1, m1, _⟩ := (h.rd s).shape
 have HS1 := Lib.hid (show Sat B D w (entsR (.slice none 0 0) [] :: l) from s.own_nil tRe 18)
 have HH := Lib.hid h
 obtain ⟨N, hN⟩ : ∃ N, hs.length = N := ⟨_, rfl⟩
 have HN := Lib.hid hN
 rw [hN] at HH n1 m1 hM ⊢
 clear h s hN hi hz0 hz1 hz2
 go_enter Tryz.func147, Tryz.ntmps147
 go_wp2_with fail
 go_loopw [3, 4] (fun ot ii wr => ∃ (j : Nat) (oa : Option Addr) (oc : Nat) (zs : List EntE), ii = .int .i64 j ∧ ot = .slice oa zs.length oc ∧ j ≤ N ∧ zs = (hs.take j).filter (fun e => e.more) ∧ Sat B D wr (entsR (.slice oa zs.length oc) zs :: l)) (fun _ ii _ => N - (intOf ii).toNat)
 case atStart => exact ⟨0, none, 0, [], rfl, rfl, by omega, rfl, HS1.out⟩
 case round =>
  obtain ⟨j, oa, oc, zs, rfl, rfl, hj, hzs, hs2⟩ := hrel
  have hle : zs.length ≤ j := by rw [hzs]; exact Nat.le_trans (List.length_filter_le _ _) (by rw [List.length_take]; omega)
  have HZS := Lib.hid hzs
  have HS2 := Lib.hid hs2
  clear hs2 hzs HS1
  by_cases hlt : j < N
  ·have hji : (j : Int) < (N : Int) := by omega
   obtain ⟨x, hx⟩ : ∃ x, hs[j]? = some x := ⟨hs[j]'(by rw [HN.out]; exact hlt), List.getElem?_eq_getElem _⟩
   obtain ⟨g, og, hg, hr, _⟩ := entAt (HH.out.rd HS2.out) HN.out hx
   subst hg
   have HL := Lib.hid (loadRe hr)
   have x17 := moreC hr
   have HX := Lib.hid hx
   cases hm : x.more
   ·rw [hm] at x17
    have HT := Lib.hid (filter_take_no (q := fun e : EntE => e.more) HX.out hm)
    clear hm hx hr HL
    go_wp2_with fail
    go_roundw
    case rel => exact ⟨j + 1, oa, oc, zs, by go_num, rfl, by omega, by rw [HT.out]; exact HZS.out, HS2.out⟩
    case measure => simp [intOf]; omega
   ·rw [hm] at x17
    have HT := Lib.hid (filter_take_yes (q := fun e : EntE => e.more) HX.out hm)
    have HS5 := Lib.hid ((HS2.out.alloc (cellsC x).toArray tRe).front 1 rfl)
    have HRD := Lib.hid (rd_block (size := 18) (n := 1) (HS5.out.blk 1 rfl) (by simp [lenC]) (by unfold maxLen; omega))
    clear hm hx hr HS2
    go_wp2_with (first | (refine wpList_ld rfl _ _ rfl _ _ rfl _ HL.out ?_) | (refine wpList_build_one rfl _ _ rfl tRe i0 _ (cellsC x) rfl Tryz.underlying56 HI.out.1 HI.out.2.1 (HI.out.2.2.1.trans rfl) (by rw [lenC]; decide) (by rw [lenC]; decide) ?_) | (at_builtin; refine wpList_append_Sat _ rfl _ _ 56 rfl tRe i0 _ 18 200 Tryz.underlying56 HI.out.1 HI.out.2.1 HI.out.2.2.1 HI.out.2.2.2 rfl _ zs.length _ rfl HS5.out _ 1 _ rfl HRD.out (by simpa using oneC x) (by unfold maxLen; omega) (by omega) ?_; intro v11 w11 hs11 h11; obtain ⟨va, vc, rfl⟩ := hs11.own_shape; have HS11 := Lib.hid hs11; clear hs11 h11 HS5 HRD HL x17))
    go_roundw
    case rel =>
     refine ⟨j + 1, va, vc, zs ++ [x], by go_num, by rw [List.length_append]; rfl, by omega, by rw [HT.out, HZS.out], ?_⟩
     show Sat B D w11 (ownS tRe 18 (.slice va (zs ++ [x]).length vc) (zs ++ [x]).length ((zs ++ [x]).flatMap cellsC) :: _)
     rw [List.length_append, List.flatMap_append]
     have h9 := (HS11.out.front 1 rfl).drop
     simpa using h9
    case measure => simp [intOf]; omega
  ·have hji : ¬ ((j : Int) < (N : Int)) := by omega
   have HT := Lib.hid (show zs = hs.filter (fun e => e.more) by rw [HZS.out, List.take_of_length_le (by rw [HN.out]; omega)])
   go_wp2_with fail
   go_ret
   obtain ⟨D', hle', he, hs9⟩ := entsR_give HS2.out (fun e he => by rw [HZS.out] at he; exact HH.out.2 e (List.mem_of_mem_take (List.mem_filter.1 he).1))
   rw [HT.out] at he
   exact ⟨_, D', by rw [HT.out]; rfl, hle', he, hs9⟩
end Go.Proofs.YtgljdkjepdknnaaGreatDoor
