/- The document's queue as a value whose rows lie in the pool; who waits (ratlineref10.Queue.Waiting, waiting). -/
import Derived.Test.YtgljdkjepdknnaaGreatDoorJ29
import Derived.Test.YtgljdkjepdknnaaGreatDoorJ22
namespace Go.Proofs.YtgljdkjepdknnaaGreatDoor
open Go.ChangeShapes Go.WideShapes Go.ChangeAt Go.RowKit
set_option maxRecDepth 100000
set_option linter.unusedSimpArgs false

/-- a row of entries that lies in the pool -/
def EntsD (D : PH) (v : Value) (hs : List EntE) : Prop := RdP D 18 v hs.length (hs.flatMap cellsC) ∧ ∀ e ∈ hs, ClOk D e.x ∧ ClmFit e.x.c
theorem EntsD.mono {D D' : PH} {v : Value} {hs : List EntE} (h : EntsD D v hs) (le : PH.le D D') : EntsD D' v hs := ⟨h.1.mono le, fun e he => ⟨(h.2 e he).1.mono le, (h.2 e he).2⟩⟩
theorem EntsD.rd {B w : World} {D : PH} {l : List HP} {v : Value} {hs : List EntE} (h : EntsD D v hs) (s : Sat B D w l) : EntsRd w v hs := ⟨h.1.rd s, fun e he => (h.2 e he).1.rd s, fun e he => (h.2 e he).2⟩
/-- the document's queue -/
def QueD (D : PH) (v : Value) (Q : Qm Clm) : Prop := ∃ (hv wv : Value) (hs ws : List EntE), v = .agg #[hv, wv] ∧ EntsD D hv hs ∧ EntsD D wv ws ∧ hs.map entC = Q.held ∧ ws.map entC = Q.waits
theorem QueD.mono {D D' : PH} {v : Value} {Q : Qm Clm} (h : QueD D v Q) (le : PH.le D D') : QueD D' v Q := by
  obtain ⟨hv, wv, hs, ws, a, b, c, d, e⟩ := h
  exact ⟨hv, wv, hs, ws, a, b.mono le, c.mono le, d, e⟩
theorem waitsQ_at {Q : Qm Clm} {ws : List EntE} {o : Int} {j : Nat} {e : EntE} (hw : ws.map entC = Q.waits) (h : (ws.take j).any (fun e => decide (e.o = o)) = false) (he : ws[j]? = some e) (ho : e.o = o) : waitsQ Q o = (e.x.c, true) := by
  have hlt : j < ws.length := (List.getElem?_eq_some_iff.1 he).1
  have hf : waitAt Q.waits o = some j := by
    unfold waitAt
    rw [← hw, List.findIdx?_map, List.findIdx?_eq_some_iff_getElem]
    refine ⟨hlt, ?_, fun i hi => ?_⟩
    · rw [(List.getElem?_eq_some_iff.1 he).2]
      show decide (e.o = o) = true
      exact decide_eq_true ho
    · have := none_before h (ws[i]'(by omega)) (List.mem_take_iff_getElem.2 ⟨i, by omega, rfl⟩)
      show ¬ decide ((ws[i]'(by omega)).o = o) = true
      rw [this]; simp
  unfold waitsQ
  rw [hf]
  dsimp only
  rw [← hw, List.getElem?_map, he]
  rfl
theorem waitsQ_no {Q : Qm Clm} {ws : List EntE} {o : Int} (hw : ws.map entC = Q.waits) (h : ws.any (fun e => decide (e.o = o)) = false) : waitsQ Q o = (clm0, false) := by
  have hf : waitAt Q.waits o = none := by
    unfold waitAt
    rw [← hw, List.findIdx?_map, List.findIdx?_eq_none_iff]
    intro e he
    have : (fun e : EntE => decide (e.o = o)) e = false := by
      rw [Bool.eq_false_iff]; intro hp; rw [List.any_eq_true.2 ⟨e, he, hp⟩] at h; cases h
    exact this
  unfold waitsQ
  rw [hf]
def RWaitC (B : World) (D : PH) (l : List HP) (Q : Qm Clm) (o : Int) (r : Ending) (w' : World) : Prop := ∃ z : ClmE, r = .returned (.tuple #[.agg z.cells.toArray, .bool (waitsQ Q o).2]) ∧ z.c = (waitsQ Q o).1 ∧ ClOk D z ∧ ((waitsQ Q o).2 = true → ClmFit z.c) ∧ Sat B D w' l
set_option maxHeartbeats 8000000 in
theorem rqWaiting_ok {B w : World} {D : PH} {l : List HP} {v : Value} {Q : Qm Clm} (o : Int) (hq : QueD D v Q) (hs : Sat B D w l) :
    Calls Tryz.prog 32 #[v, .int .i64 o] w (RWaitC B D l Q o) := by
  obtain ⟨hv, wv, hs', ws, rfl, _, hW, _, hwq⟩ := hq
  obtain ⟨W1, hW1, hs1⟩ := two_new hs #[hv, wv] cZ 58 tCl
  obtain ⟨a, c, rfl, n1, m1, _⟩ := (hW.rd hs1).shape
  have HW1 := Lib.hid hW1
  have HS1 := Lib.hid hs1
  have HWD := Lib.hid hW
  have HWQ := Lib.hid hwq
  obtain ⟨N, hN⟩ : ∃ N, ws.length = N := ⟨_, rfl⟩
  have HN := Lib.hid hN
  rw [hN] at HWD n1 m1 HW1 HS1 ⊢
  clear hW1 hs hs1 hW hwq hN
  go_enter Tryz.func32, Tryz.ntmps32
  go_upto_region 1 with fail
  rw [← HW1.out]
  clear HW1
  generalize w.heap.size + 1 = b2 at *
  generalize w.heap.size = b1 at *
  go_wp2_with fail
  go_loopw [6] (fun i wr => ∃ j : Nat, i = .int .i64 j ∧ j ≤ N ∧ (ws.take j).any (fun e => decide (e.o = o)) = false ∧ Sat B D wr (blk b1 #[hv, .slice a N c] 58 :: blk b2 cZ tCl :: l)) (fun i _ => N - (intOf i).toNat)
  case atStart => exact ⟨0, rfl, by omega, rfl, HS1.out⟩
  case round =>
    obtain ⟨j, rfl, hj, hn, hs⟩ := hrel
    have HNO := Lib.hid hn
    have HS := Lib.hid hs
    obtain ⟨_, q1, _⟩ := cells2 (hs.blk 0 rfl)
    clear hn hs
    by_cases hlt : j < N
    · have hji : (j : Int) < (N : Int) := by omega
      obtain ⟨e, he⟩ : ∃ e, ws[j]? = some e := ⟨ws[j]'(by rw [HN.out]; exact hlt), List.getElem?_eq_getElem _⟩
      obtain ⟨g, og, hg, _, hr2, y0, hre, hfe⟩ := entAt (HWD.out.rd HS.out) HN.out he
      have HEJ := Lib.hid he
      subst hg
      by_cases ho : e.o = o
      · have hne : (e.o == o) = true := by simpa using ho
        have HR := Lib.hid (waitsQ_at HWQ.out HNO.out he ho)
        have HL := Lib.hid (loadCl hr2)
        have HOK := Lib.hid (HWD.out.2 e (List.mem_of_getElem? he))
        have HSX := Lib.hid (HS.out.front 1 rfl)
        clear he ho hr2 hre hfe HS
        go_wp2_with (first | (refine wpList_ld rfl _ _ rfl _ _ rfl _ HL.out ?_) | (refine wpList_store_whole rfl _ _ _ rfl tCl b2 rfl e.x.cells rfl cZ HSX.out (by kernel_rfl) rfl (ClmE.one _) ?_; intro w6 hs6; have HS6 := Lib.hid hs6; clear hs6 HSX HL q1 y0))
        refine bodyPost_ret (results_c2 rfl _ _ rfl (loadCl (blk_range (HS6.out.blk 0 rfl)))) rfl ?_
        refine ⟨e.x, ?_, ?_, HOK.out.1, fun _ => HOK.out.2, HS6.out.drop.drop⟩
        · rw [HR.out]; rfl
        · rw [HR.out]
      · have hne : (e.o == o) = false := by simpa using ho
        have HQ := Lib.hid (show decide (e.o = o) = false from decide_eq_false ho)
        clear he ho hr2 hre hfe
        go_wp2_with fail
        go_roundw
        case rel => exact ⟨j + 1, by go_num, by omega, by rw [any_snoc _ HEJ.out, HNO.out, HQ.out]; rfl, HS.out⟩
        case measure => simp [intOf]; omega
    · have hji : ¬ ((j : Int) < (N : Int)) := by omega
      obtain rfl : j = N := by omega
      have HR := Lib.hid (waitsQ_no (Q := Q) (o := o) HWQ.out (by have := HNO.out; rw [List.take_of_length_le (Nat.le_of_eq HN.out)] at this; exact this))
      have HSX := Lib.hid (HS.out.front 1 rfl)
      clear HS
      go_wp2_with (first | (refine wpList_build_cl0w rfl rfl ?_) | (refine wpList_store_whole rfl _ _ _ rfl tCl b2 rfl cl0.cells rfl cZ HSX.out (by kernel_rfl) rfl (ClmE.one _) ?_; intro w6 hs6; have HS6 := Lib.hid hs6; clear hs6 HSX q1))
      refine bodyPost_ret (results_c2 rfl _ _ rfl (loadCl (blk_range (HS6.out.blk 0 rfl)))) rfl ?_
      refine ⟨cl0, ?_, ?_, cl0_ok D, ?_, HS6.out.drop.drop⟩
      · rw [HR.out]; rfl
      · rw [HR.out]; rfl
      · rw [HR.out]; intro h; cases h
end Go.Proofs.YtgljdkjepdknnaaGreatDoor
