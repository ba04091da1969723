/- Joined texts: The document's queue: a row of entries that reads; does one meet another's (ratlineref10.meets). The document's queue: whose own is the same (ratlineref10.Queue.own). The document's queue as a value whose rows lie in the pool; who waits (ratlineref10.Queue.Waiting, waiting). The document's queue: does an owner wait (ratlineref10.Queue.waiting); those that want more (mores). -/
import Derived.Test.YtgljdkjepdknnaaGreatDoorMT19
import Derived.Test.YtgljdkjepdknnaaGreatDoorMT6
import Derived.Test.YtgljdkjepdknnaaGreatDoorMT17
set_option maxHeartbeats 64000000
namespace Go.Proofs.YtgljdkjepdknnaaGreatDoor
open Go.ChangeShapes Go.WideShapes Go.ChangeAt Go.RowKit
set_option maxRecDepth 100000
set_option linter.unusedSimpArgs false
def EntsRd (w : World) (v : Value) (hs : List EntE) : Prop := Rd w 18 v hs.length (hs.flatMap au) ∧ (∀ e ∈ hs, RdCl w e.x) ∧ ∀ e ∈ hs, bS e.x.c
theorem EntsRd.kept {w w' : World} {v : Value} {hs : List EntE} (h : EntsRd w v hs) (k : Kept (fun _ => False) w w') : EntsRd w' v hs := ⟨h.1.kept k (fun _ _ h => h), fun e he => (h.2.1 e he).kept k, h.2.2⟩
theorem EntsRd.shape {w : World} {v : Value} {hs : List EntE} (h : EntsRd w v hs) : ∃ ao cap, v = .slice ao hs.length cap ∧ hs.length ≤ cap ∧ hs.length ≤ 9223372036854775807 ∧ cap ≤ 9223372036854775807 := by
 obtain ⟨_, hml, ao, cap, hv, hnc, hcm, _⟩ := h.1
 unfold maxLen at hml hcm
 exact ⟨ao, cap, hv, hnc, by omega, by omega⟩
theorem eu {w : World} {ao : Option Addr} {N cap j : Nat} {hs : List EntE} {e : EntE} (h : EntsRd w (.slice ao N cap) hs) (hl : hs.length = N) (he : hs[j]? = some e) :
  ∃ g o, ao = some ⟨g, o, none⟩ ∧ w.rangeAt g (o + j * 18) (au e) ∧ w.rangeAt g (o + j * 18 + 1) e.x.cells ∧ w.cell? ⟨g, o + j * 18, none⟩ = some (.int .i64 e.o) ∧ RdCl w e.x ∧ bS e.x.c := by
 obtain ⟨g, o, hg, hr⟩ := aD bM (by have := h.1; rw [hl] at this; exact this) he hl
 refine ⟨g, o, hg, hr, fun i u hu => ?_, hr 0 _ rfl, h.2.1 e (List.mem_of_getElem? he), h.2.2 e (List.mem_of_getElem? he)⟩
 have hi : i < 16 := by have := (List.getElem?_eq_some_iff.1 hu).1; rwa [ClmE.len] at this
 rw [show o + j * 18 + 1 + i = o + j * 18 + (i + 1) by omega]
 refine hr (i + 1) u ?_
 show (e.x.cells ++ [.bool e.more])[i]? = _
 rw [List.getElem?_append_left (by rw [ClmE.len]; exact hi)]
 exact hu
theorem eh {w : World} {v : Value} {hs : List EntE} {x : ClmE} (o : Int) (h : EntsRd w v hs) (hx : RdCl w x) (hf : bS x.c) :
  Calls Tryz.prog 148 #[v, .int .i64 o, .agg x.cells.toArray] w fun r w' => r = .returned (.bool (hs.any (fun e => bC RC o x.c (aG e)))) ∧ Kept (fun _ => False) w w' := by
 obtain ⟨W1, hW1, hk1, hb1⟩ : ∃ W, W = w.alloc (.cells x.cells.toArray tCl) ∧ Kept (fun _ => False) w W ∧ W.heap[w.heap.size]? = some (.cells x.cells.toArray tCl (0, 0)) := ⟨_, rfl, (Kept.refl _ _).alloc _, aB _ _⟩
 obtain ⟨a, c, rfl, n1, m1, _⟩ := h.shape
 have sR := BO hW1
 have sW := BO hk1
 have sZ := BO hb1
 have HH := BO (h.kept hk1)
 have HX := BO (hx.kept hk1)
 have zl := BO hf
 obtain ⟨N, hN⟩ : ∃ N, hs.length = N := ⟨_, rfl⟩
 have HN := BO hN
 obtain ⟨p, hp⟩ : ∃ p : EntE → Bool, (fun e => bC RC o x.c (aG e)) = p := ⟨_, rfl⟩
 have HP := BO (show ∀ e : EntE, p e = (decide (e.o ≠ o) && RC.conf e.x.c x.c) from fun e => by rw [← hp]; rfl)
 rw [hp]
 rw [hN] at HH n1 m1 ⊢
 clear hW1 hk1 hb1 h hx hf hN hp
 go_enter Tryz.func148, Tryz.ntmps148
 go_upto_region 1 with fail
 rw [← sR.out]
 clear sR
 generalize w.heap.size = b1 at *
 go_wp2_with fail
 go_loopw [7] (fun i wr => ∃ j : Nat, i = .int .i64 j ∧ j ≤ N ∧ (hs.take j).any p = false ∧ Kept (fun _ => False) W1 wr) (fun i _ => N - (intOf i).toNat)
 case atStart => exact ⟨0, rfl, by omega, rfl, Kept.refl _ _⟩
 case round =>
  obtain ⟨j, rfl, hj, hn, hk⟩ := hrel
  have tK := BO hn
  have HK := BO hk
  clear hn hk
  by_cases hlt : j < N
  ·have hji : (j : Int) < (N : Int) := by omega
   obtain ⟨e, he⟩ : ∃ e, hs[j]? = some e := ⟨hs[j]'(by rw [HN.out]; exact hlt), List.getElem?_eq_getElem _⟩
   obtain ⟨g, og, hg, _, hr2, y0, hre, hfe⟩ := eu (HH.out.kept HK.out) HN.out he
   have wX := BO he
   subst hg
   have tA := BO (ay (w := wr.drew) hr2)
   have tU := BO (ay (w := wr.drew) (ai (aA HK.out.drew sZ.out)))
   have HC := BO (rh (w := wr.drew) (hre.drew) (HX.out.kept HK.out.drew) hfe zl.out)
   obtain ⟨b, hb⟩ : ∃ b, RC.conf e.x.c x.c = b := ⟨_, rfl⟩
   rw [hb] at HC
   have HB := BO hb
   clear he hr2 hre hfe hb y0
   go_upto_region 4 with fail
   refine af [(0, false, 6), (1, false, 6), (2, false, 6), (3, false, 6), (4, false, 6), (5, false, 6), (6, true, 0), (7, false, 999)] (by kernel_rfl) (by kernel_rfl) ?_
   iterate 6 (refine ae rfl rfl (fun K hK => ?_); (first | ((refine aj _ _ rfl _ _ rfl _ tA.out ?_); go_simp) | ((refine aj _ _ rfl _ _ rfl _ tU.out ?_); go_simp) | go_simp); refine hK _ ?_; clear hK K)
   refine al rfl ?_
   refine aw rfl (fun K hK => ?_)
   go_simp
   refine HC.out.mono ?_
   rintro e4 w4 ⟨rfl, hk4⟩
   have ud := BO (HK.out.drew.trans hk4 (fun _ h => h.elim))
   clear hk4 HC tA tU
   refine hK _ _ ?_
   clear hK K
   refine wpList_nil ?_
   refine And.intro ?_ ?_
   ·go_simp
   refine ae rfl rfl (fun K hK => ?_); (first | ((refine aj _ _ rfl _ _ rfl _ tA.out ?_); go_simp) | ((refine aj _ _ rfl _ _ rfl _ tU.out ?_); go_simp) | go_simp); refine hK _ ?_; clear hK K
   refine ap ?_
   obtain ⟨g2, og2, hg2, _, _, y0, _, _⟩ := eu (HH.out.kept ud.out) HN.out wX.out
   cases hg2
   by_cases ho : e.o = o
   ·have hne : (e.o != o) = false := by simpa using ho
    have HQ := BO (show p e = false by rw [HP.out]; simp [ho])
    clear ho
    go_wp2_with fail
    go_roundw
    case rel => exact ⟨j + 1, by go_num, by omega, by rw [dm _ wX.out, tK.out, HQ.out]; rfl, ud.out⟩
    case measure => simp [intOf]; omega
   ·have hne : (e.o != o) = true := by simpa using ho
    have HQ := BO (show p e = b by rw [HP.out, HB.out, decide_eq_true ho]; rfl)
    clear ho
    cases b
    ·go_wp2_with fail
     go_roundw
     case rel => exact ⟨j + 1, by go_num, by omega, by rw [dm _ wX.out, tK.out, HQ.out]; rfl, ud.out⟩
     case measure => simp [intOf]; omega
    ·go_wp2_with fail
     go_ret
     exact ⟨by rw [iN _ wX.out HQ.out]; rfl, sW.out.trans ud.out (fun _ h => h.elim)⟩
  ·have hji : ¬ ((j : Int) < (N : Int)) := by omega
   obtain rfl : j = N := by omega
   have HF := BO (show hs.any p = false by have := tK.out; rw [List.take_of_length_le (Nat.le_of_eq HN.out)] at this; exact this)
   go_wp2_with fail
   go_ret
   exact ⟨by rw [HF.out]; rfl, sW.out.trans HK.out (fun _ h => h.elim)⟩
theorem gw {α : Type} {p : α → Bool} {l : List α} {j : Nat} (h : (l.take j).any p = false) : ∀ y ∈ l.take j, p y = false := by
 intro y hy
 rw [Bool.eq_false_iff]
 intro hp
 rw [List.any_eq_true.2 ⟨y, hy, hp⟩] at h
 cases h
theorem jY {w : World} {hv wv : Value} {hs : List EntE} {x : ClmE} (o : Int) (h : EntsRd w hv hs) (hx : RdCl w x) :
  Calls Tryz.prog 145 #[.agg #[hv, wv], .int .i64 o, .agg x.cells.toArray] w fun r w' => r = .returned (.int .i64 (cl (fun e => cw RC o x.c (aG e)) hs)) ∧ Kept (fun _ => False) w w' := by
 obtain ⟨W1, hW1, hk1, hb1, hb2⟩ := dD w #[hv, wv] x.cells.toArray 58 tCl
 obtain ⟨a, c, rfl, n1, m1, _⟩ := h.shape
 have sR := BO hW1
 have sW := BO hk1
 have sZ := BO hb1
 have s7 := BO hb2
 have HH := BO (h.kept hk1)
 have HX := BO (hx.kept hk1)
 obtain ⟨N, hN⟩ : ∃ N, hs.length = N := ⟨_, rfl⟩
 have HN := BO hN
 obtain ⟨p, hp⟩ : ∃ p : EntE → Bool, (fun e => cw RC o x.c (aG e)) = p := ⟨_, rfl⟩
 have HP := BO (show ∀ e : EntE, p e = (decide (e.o = o) && RC.same e.x.c x.c) from fun e => by rw [← hp]; rfl)
 rw [hp]
 rw [hN] at HH n1 m1 sZ sR ⊢
 clear hW1 hk1 hb1 hb2 h hx hN hp
 go_enter Tryz.func145, Tryz.ntmps145
 go_upto_region 1 with fail
 rw [← sR.out]
 clear sR
 generalize w.heap.size + 1 = b2 at *
 generalize w.heap.size = b1 at *
 go_wp2_with fail
 go_loopw [7] (fun i wr => ∃ j : Nat, i = .int .i64 j ∧ j ≤ N ∧ (hs.take j).any p = false ∧ Kept (fun _ => False) W1 wr) (fun i _ => N - (intOf i).toNat)
 case atStart => exact ⟨0, rfl, by omega, rfl, Kept.refl _ _⟩
 case round =>
  obtain ⟨j, rfl, hj, hn, hk⟩ := hrel
  have tK := BO hn
  have HK := BO hk
  clear hn hk
  obtain ⟨q0, _, _⟩ := aH (aA HK.out sZ.out)
  by_cases hlt : j < N
  ·have hji : (j : Int) < (N : Int) := by omega
   obtain ⟨e, he⟩ : ∃ e, hs[j]? = some e := ⟨hs[j]'(by rw [HN.out]; exact hlt), List.getElem?_eq_getElem _⟩
   obtain ⟨g, og, hg, _, hr2, y0, hre, hfe⟩ := eu (HH.out.kept HK.out) HN.out he
   have wX := BO he
   subst hg
   have tA := BO (ay (w := wr.drew) hr2)
   have tU := BO (ay (w := wr.drew) (ai (aA HK.out.drew s7.out)))
   have HC := BO (el (w := wr.drew) (hre.drew) (HX.out.kept HK.out.drew))
   obtain ⟨b, hb⟩ : ∃ b, RC.same e.x.c x.c = b := ⟨_, rfl⟩
   rw [hb] at HC
   have HB := BO hb
   clear he hr2 hre hfe hb y0
   go_upto_region 4 with fail
   refine af [(0, false, 7), (1, false, 7), (2, false, 7), (3, false, 7), (4, false, 7), (5, false, 7), (6, false, 7), (7, true, 0), (8, false, 999)] (by kernel_rfl) (by kernel_rfl) ?_
   iterate 7 (refine ae rfl rfl (fun K hK => ?_); (first | ((refine aj _ _ rfl _ _ rfl _ tA.out ?_); go_simp) | ((refine aj _ _ rfl _ _ rfl _ tU.out ?_); go_simp) | go_simp); refine hK _ ?_; clear hK K)
   refine al rfl ?_
   refine aw rfl (fun K hK => ?_)
   go_simp
   refine HC.out.mono ?_
   rintro e4 w4 ⟨rfl, hk4⟩
   have ud := BO (HK.out.drew.trans hk4 (fun _ h => h.elim))
   clear hk4 HC tA tU q0
   refine hK _ _ ?_
   clear hK K
   refine wpList_nil ?_
   refine And.intro ?_ ?_
   ·go_simp
   refine ae rfl rfl (fun K hK => ?_); (first | ((refine aj _ _ rfl _ _ rfl _ tA.out ?_); go_simp) | ((refine aj _ _ rfl _ _ rfl _ tU.out ?_); go_simp) | go_simp); refine hK _ ?_; clear hK K
   refine ap ?_
   obtain ⟨g2, og2, hg2, _, _, y0, _, _⟩ := eu (HH.out.kept ud.out) HN.out wX.out
   cases hg2
   obtain ⟨q0, _, _⟩ := aH (aA ud.out sZ.out)
   by_cases ho : e.o = o
   ·have hne : (e.o == o) = true := by simpa using ho
    have HQ := BO (show p e = b by rw [HP.out, HB.out, decide_eq_true ho]; rfl)
    clear ho
    cases b
    ·go_wp2_with fail
     go_roundw
     case rel => exact ⟨j + 1, by go_num, by omega, by rw [dm _ wX.out, tK.out, HQ.out]; rfl, ud.out⟩
     case measure => simp [intOf]; omega
    ·go_wp2_with fail
     go_ret
     exact ⟨by rw [eN (gw tK.out) wX.out HQ.out]; rfl, sW.out.trans ud.out (fun _ h => h.elim)⟩
   ·have hne : (e.o == o) = false := by simpa using ho
    have HQ := BO (show p e = false by rw [HP.out]; simp [ho])
    clear ho
    go_wp2_with fail
    go_roundw
    case rel => exact ⟨j + 1, by go_num, by omega, by rw [dm _ wX.out, tK.out, HQ.out]; rfl, ud.out⟩
    case measure => simp [intOf]; omega
  ·have hji : ¬ ((j : Int) < (N : Int)) := by omega
   obtain rfl : j = N := by omega
   have HF := BO (show cl p hs = -1 from dt (by have := gw tK.out; rw [List.take_of_length_le (Nat.le_of_eq HN.out)] at this; exact this))
   go_wp2_with fail
   go_ret
   exact ⟨by rw [HF.out]; rfl, sW.out.trans HK.out (fun _ h => h.elim)⟩
def EntsD (D : PH) (v : Value) (hs : List EntE) : Prop := RdP D 18 v hs.length (hs.flatMap au) ∧ ∀ e ∈ hs, ClOk D e.x ∧ bS e.x.c
theorem EntsD.mono {D D' : PH} {v : Value} {hs : List EntE} (h : EntsD D v hs) (le : PH.le D D') : EntsD D' v hs := ⟨h.1.mono le, fun e he => ⟨(h.2 e he).1.mono le, (h.2 e he).2⟩⟩
theorem EntsD.rd {B w : World} {D : PH} {l : List HP} {v : Value} {hs : List EntE} (h : EntsD D v hs) (s : Sat B D w l) : EntsRd w v hs := ⟨h.1.rd s, fun e he => (h.2 e he).1.rd s, fun e he => (h.2 e he).2⟩
def QueD (D : PH) (v : Value) (Q : Qm Clm) : Prop := ∃ (hv wv : Value) (hs ws : List EntE), v = .agg #[hv, wv] ∧ EntsD D hv hs ∧ EntsD D wv ws ∧ hs.map aG = Q.held ∧ ws.map aG = Q.waits
theorem QueD.mono {D D' : PH} {v : Value} {Q : Qm Clm} (h : QueD D v Q) (le : PH.le D D') : QueD D' v Q := by
 obtain ⟨hv, wv, hs, ws, a, b, c, d, e⟩ := h
 exact ⟨hv, wv, hs, ws, a, b.mono le, c.mono le, d, e⟩
theorem qc {Q : Qm Clm} {ws : List EntE} {o : Int} {j : Nat} {e : EntE} (hw : ws.map aG = Q.waits) (h : (ws.take j).any (fun e => decide (e.o = o)) = false) (he : ws[j]? = some e) (ho : e.o = o) : aS Q o = (e.x.c, true) := by
 have hlt : j < ws.length := (List.getElem?_eq_some_iff.1 he).1
 have hf : b8 Q.waits o = some j := by
  unfold b8
  rw [← hw, List.findIdx?_map, List.findIdx?_eq_some_iff_getElem]
  refine ⟨hlt, ?_, fun i hi => ?_⟩
  ·rw [(List.getElem?_eq_some_iff.1 he).2]
   show decide (e.o = o) = true
   exact decide_eq_true ho
  ·have := gw h (ws[i]'(by omega)) (List.mem_take_iff_getElem.2 ⟨i, by omega, rfl⟩)
   show ¬ decide ((ws[i]'(by omega)).o = o) = true
   rw [this]; simp
 unfold aS
 rw [hf]
 dsimp only
 rw [← hw, List.getElem?_map, he]
 rfl
theorem qa {Q : Qm Clm} {ws : List EntE} {o : Int} (hw : ws.map aG = Q.waits) (h : ws.any (fun e => decide (e.o = o)) = false) : aS Q o = (clm0, false) := by
 have hf : b8 Q.waits o = none := by
  unfold b8
  rw [← hw, List.findIdx?_map, List.findIdx?_eq_none_iff]
  intro e he
  have : (fun e : EntE => decide (e.o = o)) e = false := by
   rw [Bool.eq_false_iff]; intro hp; rw [List.any_eq_true.2 ⟨e, he, hp⟩] at h; cases h
  exact this
 unfold aS
 rw [hf]
def RWaitC (B : World) (D : PH) (l : List HP) (Q : Qm Clm) (o : Int) (r : Ending) (w' : World) : Prop := ∃ z : ClmE, r = .returned (.tuple #[.agg z.cells.toArray, .bool (aS Q o).2]) ∧ z.c = (aS Q o).1 ∧ ClOk D z ∧ ((aS Q o).2 = true → bS z.c) ∧ Sat B D w' l
theorem eM {B w : World} {D : PH} {l : List HP} {v : Value} {Q : Qm Clm} (o : Int) (hq : QueD D v Q) (hs : Sat B D w l) :
  Calls Tryz.prog 32 #[v, .int .i64 o] w (RWaitC B D l Q o) := by
 obtain ⟨hv, wv, hs', ws, rfl, _, hW, _, hwq⟩ := hq
 obtain ⟨W1, hW1, hs1⟩ := cy hs #[hv, wv] cZ 58 tCl
 obtain ⟨a, c, rfl, n1, m1, _⟩ := (hW.rd hs1).shape
 have sR := BO hW1
 have sS := BO hs1
 have uN := BO hW
 have vv := BO hwq
 obtain ⟨N, hN⟩ : ∃ N, ws.length = N := ⟨_, rfl⟩
 have HN := BO hN
 rw [hN] at uN n1 m1 sR sS ⊢
 clear hW1 hs hs1 hW hwq hN
 go_enter Tryz.func32, Tryz.ntmps32
 go_upto_region 1 with fail
 rw [← sR.out]
 clear sR
 generalize w.heap.size + 1 = b2 at *
 generalize w.heap.size = b1 at *
 go_wp2_with fail
 go_loopw [6] (fun i wr => ∃ j : Nat, i = .int .i64 j ∧ j ≤ N ∧ (ws.take j).any (fun e => decide (e.o = o)) = false ∧ Sat B D wr (blk b1 #[hv, .slice a N c] 58 :: blk b2 cZ tCl :: l)) (fun i _ => N - (intOf i).toNat)
 case atStart => exact ⟨0, rfl, by omega, rfl, sS.out⟩
 case round =>
  obtain ⟨j, rfl, hj, hn, hs⟩ := hrel
  have tK := BO hn
  have HS := BO hs
  obtain ⟨_, q1, _⟩ := aH (hs.blk 0 rfl)
  clear hn hs
  by_cases hlt : j < N
  ·have hji : (j : Int) < (N : Int) := by omega
   obtain ⟨e, he⟩ : ∃ e, ws[j]? = some e := ⟨ws[j]'(by rw [HN.out]; exact hlt), List.getElem?_eq_getElem _⟩
   obtain ⟨g, og, hg, _, hr2, y0, hre, hfe⟩ := eu (uN.out.rd HS.out) HN.out he
   have wX := BO he
   subst hg
   by_cases ho : e.o = o
   ·have hne : (e.o == o) = true := by simpa using ho
    have HR := BO (qc vv.out tK.out he ho)
    have HL := BO (ay hr2)
    have tJ := BO (uN.out.2 e (List.mem_of_getElem? he))
    have zm := BO (HS.out.front 1 rfl)
    clear he ho hr2 hre hfe HS
    go_wp2_with (first | (refine ag rfl _ _ rfl _ _ rfl _ HL.out ?_) | (refine aq rfl _ _ _ rfl tCl b2 rfl e.x.cells rfl cZ zm.out (by kernel_rfl) rfl (ClmE.one _) ?_; intro w6 hs6; have s0 := BO hs6; clear hs6 zm HL q1 y0))
    refine bodyPost_ret (aL rfl _ _ rfl (ay (ai (s0.out.blk 0 rfl)))) rfl ?_
    refine ⟨e.x, ?_, ?_, tJ.out.1, fun _ => tJ.out.2, s0.out.drop.drop⟩
    ·rw [HR.out]; rfl
    ·rw [HR.out]
   ·have hne : (e.o == o) = false := by simpa using ho
    have HQ := BO (show decide (e.o = o) = false from decide_eq_false ho)
    clear he ho hr2 hre hfe
    go_wp2_with fail
    go_roundw
    case rel => exact ⟨j + 1, by go_num, by omega, by rw [dm _ wX.out, tK.out, HQ.out]; rfl, HS.out⟩
    case measure => simp [intOf]; omega
  ·have hji : ¬ ((j : Int) < (N : Int)) := by omega
   obtain rfl : j = N := by omega
   have HR := BO (qa (Q := Q) (o := o) vv.out (by have := tK.out; rw [List.take_of_length_le (Nat.le_of_eq HN.out)] at this; exact this))
   have zm := BO (HS.out.front 1 rfl)
   clear HS
   go_wp2_with (first | (refine iw rfl rfl ?_) | (refine aq rfl _ _ _ rfl tCl b2 rfl cl0.cells rfl cZ zm.out (by kernel_rfl) rfl (ClmE.one _) ?_; intro w6 hs6; have s0 := BO hs6; clear hs6 zm q1))
   refine bodyPost_ret (aL rfl _ _ rfl (ay (ai (s0.out.blk 0 rfl)))) rfl ?_
   refine ⟨cl0, ?_, ?_, l4 D, ?_, s0.out.drop.drop⟩
   ·rw [HR.out]; rfl
   ·rw [HR.out]; rfl
   ·rw [HR.out]; intro h; cases h
abbrev tRe : TypeId := 101
abbrev tRq : TypeId := 58
theorem gA : (Tryz.prog.info? tRe).map (fun i => (i.zero, i.size, i.bytes)) = some (some (.agg #[.int .i64 0, .int .i64 0, .int .i64 0, .int .i64 0, .bool false, .int .i64 0, .string ⟨#[]⟩, .slice none 0 0, .int .i64 0, .int .i64 0, .bool false, .int .i64 0, .string ⟨#[]⟩, .bool false, .int .i64 0, .string ⟨#[]⟩, .slice none 0 0, .bool false]), 18, 200) := by kernel_rfl
theorem dW {w : World} {g o : Nat} {e : EntE} (h : w.rangeAt g o (au e)) : (loadVar tRe ⟨g, o, none⟩).run Tryz.prog w = .ok (.agg (au e).toArray) w := run_loadVar_mid w g o _ _ _ h Tryz.underlying101 rfl (by kernel_rfl)
theorem bi {w : World} {g o : Nat} {a b : Value} (h : w.rangeAt g o [a, b]) : (loadVar tRq ⟨g, o, none⟩).run Tryz.prog w = .ok (.agg #[a, b]) w := run_loadVar_mid w g o _ _ _ h Tryz.underlying58 rfl (by kernel_rfl)
abbrev fY (v : Value) (zs : List EntE) : HP := aJ tRe 18 v zs.length (zs.flatMap au)
theorem cX {B w : World} {D : PH} {l : List HP} {v : Value} {zs : List EntE} (h : Sat B D w (fY v zs :: l)) (hz : ∀ e ∈ zs, ClOk D e.x ∧ bS e.x.c) : ∃ D', PH.le D D' ∧ EntsD D' v zs ∧ Sat B D' w l := by
 obtain ⟨D', hle, hrd, hs⟩ := h.own_give
 exact ⟨D', hle, ⟨hrd, fun e he => ⟨(hz e he).1.mono hle, (hz e he).2⟩⟩, hs⟩
def EntsGot (B : World) (D : PH) (l : List HP) (zs : List EntE) (r : Ending) (w' : World) : Prop := ∃ (v : Value) (D' : PH), r = .returned v ∧ PH.le D D' ∧ EntsD D' v zs ∧ Sat B D' w' l
theorem nV {B w : World} {D : PH} {l : List HP} {v : Value} {Q : Qm Clm} (o : Int) (hq : QueD D v Q) (hs : Sat B D w l) :
  Calls Tryz.prog 144 #[v, .int .i64 o] w fun r w' => r = .returned (.bool (aS Q o).2) ∧ Sat B D w' l := by
 have hq' := hq
 obtain ⟨hv, wv, hs', ws, rfl, _, hW, _, hwq⟩ := hq
 have HC := BO (eM o hq' (hs.alloc #[hv, wv] tRq))
 have HL := BO (bi (ai ((hs.alloc #[hv, wv] tRq).blk 0 rfl)))
 clear hs hq' hW hwq
 go_enter Tryz.func144, Tryz.ntmps144
 go_upto_region 1 with fail
 go_wp2_with (first | (refine ag rfl _ _ rfl _ _ rfl _ HL.out ?_) | (go_at_call 32; refine HC.out.mono ?_; rintro e1 w1 ⟨z, rfl, _, _, _, hs1⟩; have sS := BO (hs1.alloc z.cells.toArray tCl); clear hs1 HC HL) | (refine ax rfl _ _ _ rfl z.cells _ _ rfl rfl (by kernel_rfl) rfl (ClmE.one _) ?_))
 go_ret
 exact ⟨rfl, sS.out.drop.drop⟩
theorem g6 {B w : World} {D : PH} {l : List HP} {v : Value} {hs : List EntE} (h : EntsD D v hs) (hM : hs.length ≤ 100000) (s : Sat B D w l) :
  Calls Tryz.prog 147 #[v] w (EntsGot B D l (hs.filter (fun e => e.more))) := by
 obtain ⟨i0, hi, hz0, hz1, hz2⟩ := info_parts gA
 have HI := BO (And.intro hi (And.intro hz0 (And.intro hz1 hz2)))
 obtain ⟨a, c, rfl, n1, m1, _⟩ := (h.rd s).shape
 have sS := BO (show Sat B D w (fY (.slice none 0 0) [] :: l) from s.own_nil tRe 18)
 have HH := BO h
 obtain ⟨N, hN⟩ : ∃ N, hs.length = N := ⟨_, rfl⟩
 have HN := BO hN
 rw [hN] at HH n1 m1 hM ⊢
 clear h s hN hi hz0 hz1 hz2
 go_enter Tryz.func147, Tryz.ntmps147
 go_wp2_with fail
 go_loopw [3, 4] (fun ot ii wr => ∃ (j : Nat) (oa : Option Addr) (oc : Nat) (zs : List EntE), ii = .int .i64 j ∧ ot = .slice oa zs.length oc ∧ j ≤ N ∧ zs = (hs.take j).filter (fun e => e.more) ∧ Sat B D wr (fY (.slice oa zs.length oc) zs :: l)) (fun _ ii _ => N - (intOf ii).toNat)
 case atStart => exact ⟨0, none, 0, [], rfl, rfl, by omega, rfl, sS.out⟩
 case round =>
  obtain ⟨j, oa, oc, zs, rfl, rfl, hj, hzs, hs2⟩ := hrel
  have hle : zs.length ≤ j := by rw [hzs]; exact Nat.le_trans (List.length_filter_le _ _) (by rw [List.length_take]; omega)
  have tY := BO hzs
  have sX := BO hs2
  clear hs2 hzs sS
  by_cases hlt : j < N
  ·have hji : (j : Int) < (N : Int) := by omega
   obtain ⟨x, hx⟩ : ∃ x, hs[j]? = some x := ⟨hs[j]'(by rw [HN.out]; exact hlt), List.getElem?_eq_getElem _⟩
   obtain ⟨g, og, hg, hr, _⟩ := eu (HH.out.rd sX.out) HN.out hx
   subst hg
   have HL := BO (dW hr)
   have x17 := moreC hr
   have HX := BO hx
   cases hm : x.more
   ·rw [hm] at x17
    have HT := BO (aQ (q := fun e : EntE => e.more) HX.out hm)
    clear hm hx hr HL
    go_wp2_with fail
    go_roundw
    case rel => exact ⟨j + 1, oa, oc, zs, by go_num, rfl, by omega, by rw [HT.out]; exact tY.out, sX.out⟩
    case measure => simp [intOf]; omega
   ·rw [hm] at x17
    have HT := BO (aO (q := fun e : EntE => e.more) HX.out hm)
    have sV := BO ((sX.out.alloc (au x).toArray tRe).front 1 rfl)
    have s5 := BO (aT (size := 18) (n := 1) (sV.out.blk 1 rfl) (by simp [bM]) (by unfold maxLen; omega))
    clear hm hx hr sX
    go_wp2_with (first | (refine ag rfl _ _ rfl _ _ rfl _ HL.out ?_) | (refine aC rfl _ _ rfl tRe i0 _ (au x) rfl Tryz.underlying56 HI.out.1 HI.out.2.1 (HI.out.2.2.1.trans rfl) (by rw [bM]; decide) (by rw [bM]; decide) ?_) | (at_builtin; refine ar _ rfl _ _ 56 rfl tRe i0 _ 18 200 Tryz.underlying56 HI.out.1 HI.out.2.1 HI.out.2.2.1 HI.out.2.2.2 rfl _ zs.length _ rfl sV.out _ 1 _ rfl s5.out (by simpa using eA x) (by unfold maxLen; omega) (by omega) ?_; intro v11 w11 hs11 h11; obtain ⟨va, vc, rfl⟩ := hs11.own_shape; have s6 := BO hs11; clear hs11 h11 sV s5 HL x17))
    go_roundw
    case rel =>
     refine ⟨j + 1, va, vc, zs ++ [x], by go_num, by rw [List.length_append]; rfl, by omega, by rw [HT.out, tY.out], ?_⟩
     show Sat B D w11 (aJ tRe 18 (.slice va (zs ++ [x]).length vc) (zs ++ [x]).length ((zs ++ [x]).flatMap au) :: _)
     rw [List.length_append, List.flatMap_append]
     have h9 := (s6.out.front 1 rfl).drop
     simpa using h9
    case measure => simp [intOf]; omega
  ·have hji : ¬ ((j : Int) < (N : Int)) := by omega
   have HT := BO (show zs = hs.filter (fun e => e.more) by rw [tY.out, List.take_of_length_le (by rw [HN.out]; omega)])
   go_wp2_with fail
   go_ret
   obtain ⟨D', hle', he, hs9⟩ := cX sX.out (fun e he => by rw [tY.out] at he; exact HH.out.2 e (List.mem_of_mem_take (List.mem_filter.1 he).1))
   rw [HT.out] at he
   exact ⟨_, D', by rw [HT.out]; rfl, hle', he, hs9⟩
end Go.Proofs.YtgljdkjepdknnaaGreatDoor
