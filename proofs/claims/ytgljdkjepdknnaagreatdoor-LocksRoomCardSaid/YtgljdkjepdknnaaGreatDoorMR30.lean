/- Joined texts: Going through a predicate's parts (pred.each); how many there are; whether it may be (pred.Check). Whether a predicate may be: pred.Size, pred.Check. -/
import Derived.Test.YtgljdkjepdknnaaGreatDoorMR29
/- Going through a predicate's parts (pred.each); how many there are; whether it may be (pred.Check). -/
namespace Go.Proofs.YtgljdkjepdknnaaGreatDoor
open Go.ChangeShapes Go.WideShapes Go.ChangeAt Go.RowKit
set_option maxRecDepth 100000
set_option linter.unusedSimpArgs false

set_option maxHeartbeats 4000000 in
theorem each_ok {B : World} {D : PH} {S : Type} (H : S → HP) (step : S → PredT → S) {F : Nat} {first caps : Array Value} (hent : Enters Tryz.prog F)
  (HF : ∀ (x : PredE) (s : S) (W : World) (X : List HP), x.ln = x.subs.length → Sat B D W (H s :: X) → Calls Tryz.prog F (first ++ #[.agg x.cells.toArray] ++ caps) W fun e W' => e = .returned (.tuple #[]) ∧ Sat B D W' (H (step s x.p) :: X)) :
  ∀ (p : PredT) (x : PredE) (s : S) (w : World) (X : List HP), x.p = p → PredsAt D (.slice x.la x.ln x.lc) x.subs → Sat B D w (H s :: X) →
   Calls Tryz.prog 126 #[.agg x.cells.toArray, .func (.func F) first caps] w fun e w' => e = .returned (.tuple #[]) ∧ Sat B D w' (H (p.nodes.foldl step s) :: X) := by
 refine PredT.ind fun op col v w0 pl ih x s w X hx hat hs => ?_
 have hl : x.subs = pl := by unfold PredE.p at hx; cases hx; rfl
 obtain ⟨es, hrd, hsub, hes⟩ : ∃ es : List PredE, RdP D 9 (.slice x.la x.ln x.lc) es.length (es.flatMap PredE.cells) ∧ x.subs = es.map PredE.p ∧ ∀ e ∈ es, PredsAt D (.slice e.la e.ln e.lc) e.subs := by
  generalize x.subs = xs at hat
  cases hat with
  | mk _ es he hes => exact ⟨es, he, rfl, hes⟩
 have HIH := Lib.hid (show ∀ (e : PredE) (s : S) (w : World) (X : List HP), e ∈ es → Sat B D w (H s :: X) → Calls Tryz.prog 126 #[.agg e.cells.toArray, .func (.func F) first caps] w fun r w' => r = .returned (.tuple #[]) ∧ Sat B D w' (H (e.p.nodes.foldl step s) :: X) from
  fun e s w X he hs => ih e.p (by rw [← hl, hsub]; exact List.mem_map_of_mem he) e s w X rfl (hes e he) hs)
 obtain ⟨_, _, ra, rc, hav, _⟩ := id hrd
 have hln : x.ln = es.length := (Value.slice.inj hav).2.1
 obtain ⟨W1, hW1, hs1⟩ := Sat.hide (hs.alloc x.cells.toArray tPr)
 have HC := Lib.hid (HF x s W1 (blk w.heap.size x.cells.toArray tPr :: X) (by rw [hln, hsub, List.length_map]) hs1.swap)
 have HL := Lib.hid (loadPr (blk_range (hs1.blk 0 rfl)))
 have HG := Lib.hid (show (PredT.mk op col v w0 pl).nodes.foldl step s = (es.flatMap (fun e => e.p.nodes)).foldl step (step s x.p) by
  rw [nodes_eq, List.foldl_cons, ← hx, ← hl, hsub, List.flatMap_map])
 rw [HG.out]
 have HRD := Lib.hid hrd
 have HW1 := Lib.hid hW1
 have HLN := Lib.hid hln
 have hle := hrd.2.1
 unfold maxLen at hle
 clear ih hx hat hs hs1 hW1 hl hsub hes hrd hav hln HF HG
 unfold Enters at hent
 generalize step s x.p = s1 at *
 go_enter Tryz.func126, Tryz.ntmps126
 go_upto_region 1 with fail
 rw [← HW1.out]
 clear HW1
 generalize w.heap.size = bx at HC HL ⊢
 go_upto_region 2 with (first | (refine wpList_ld rfl _ _ rfl _ _ rfl _ HL.out ?_) | (refine HC.out.mono ?_; rintro e1 w1 ⟨rfl, hs2⟩; have HS2 := Lib.hid hs2; clear hs2 HC HL))
 clear hent
 obtain ⟨x0, x1, x2, x3, x4, x5, x6, x7, x8⟩ := boxPr (HS2.out.blk 1 rfl)
 rw [HLN.out] at x8 HRD
 obtain ⟨N, hN⟩ : ∃ N, es.length = N := ⟨_, rfl⟩
 rw [hN] at x8 HRD hle
 have HN := Lib.hid hN
 obtain ⟨la, hla⟩ : ∃ la, la = x.la := ⟨_, rfl⟩
 obtain ⟨lc, hlc⟩ : ∃ lc, lc = x.lc := ⟨_, rfl⟩
 rw [← hla, ← hlc] at x8 HRD
 clear hN HLN hla hlc
 go_wp2_with fail
 clear x0 x1 x2 x3 x4 x5 x6 x7 x8
 go_loopw [12] (fun i wr => ∃ j : Nat, i = .int .i64 j ∧ j ≤ N ∧ Sat B D wr (H (((es.take j).flatMap (fun e => e.p.nodes)).foldl step s1) :: blk bx x.cells.toArray tPr :: X)) (fun i _ => N - (intOf i).toNat)
 case atStart => exact ⟨0, rfl, by omega, HS2.out⟩
 case round =>
  obtain ⟨j, rfl, hj, hs3⟩ := hrel
  have HS3 := Lib.hid hs3
  clear hs3 HS2
  by_cases hlt : j < N
  ·have hji : (j : Int) < (N : Int) := by omega
   obtain ⟨e, he⟩ : ∃ e, es[j]? = some e := ⟨es[j]'(by rw [HN.out]; exact hlt), List.getElem?_eq_getElem _⟩
   obtain ⟨g, og, rfl, hrng⟩ := elem_range PredE.len (HRD.out.rd HS3.out) he HN.out
   have HLE := Lib.hid (loadPr hrng)
   have HST := Lib.hid (show ((es.take (j + 1)).flatMap (fun e => e.p.nodes)).foldl step s1 = e.p.nodes.foldl step (((es.take j).flatMap (fun e => e.p.nodes)).foldl step s1) by
    rw [List.take_add_one, he, List.flatMap_append, List.foldl_append]; simp)
   have HMEM := Lib.hid (List.mem_of_getElem? he)
   have HS4 := Lib.hid (HS3.out.alloc e.cells.toArray tPr)
   clear he hrng
   generalize hsg : ((es.take j).flatMap (fun e => e.p.nodes)).foldl step s1 = sg at *
   go_upto_region 5 with (first | (refine wpList_ld rfl _ _ rfl _ _ rfl _ HLE.out ?_) | (refine wpList_store_new rfl _ _ _ rfl e.cells _ _ rfl rfl (by kernel_rfl) rfl (PredE.one e) ?_))
   obtain ⟨W5, hW5, hs5⟩ := Sat.hide HS4.out
   rw [← hW5]
   clear hW5 HS4 HS3 HLE
   generalize wr.heap.size = b5 at hs5 ⊢
   have HL5 := Lib.hid (loadPr (blk_range (hs5.blk 0 rfl)))
   have HC5 := Lib.hid (HIH.out e sg W5 _ HMEM.out hs5.swap)
   clear hs5
   go_wp2_with (first | (refine wpList_ld rfl _ _ rfl _ _ rfl _ HL5.out ?_) | (go_at_call 126; refine HC5.out.mono ?_; rintro e6 w6 ⟨rfl, hs6⟩; have HS6 := Lib.hid hs6; clear hs6 HC5 HL5))
   go_roundw
   case rel => exact ⟨j + 1, by go_num, by omega, by rw [HST.out]; exact HS6.out.swap.drop⟩
   case measure => simp [intOf]; omega
  ·have hji : ¬ ((j : Int) < (N : Int)) := by omega
   obtain rfl : j = N := by omega
   have HT := Lib.hid (show es.take j = es by rw [← HN.out, List.take_length])
   go_wp2_with fail
   go_end0
   exact ⟨rfl, by rw [HT.out] at HS3; exact HS3.out.swap.drop⟩
/-- counting -/
def cntStep (n : Int) (_ : PredT) : Int := IntKind.i64.wrap (n + 1)
theorem cnt_fold : ∀ (l : List PredT) (n : Nat), n + l.length ≤ 1000000 → l.foldl cntStep (n : Int) = ((n + l.length : Nat) : Int)
 | [], n, _ => rfl
 | p :: l, n, h => by
  simp only [List.length_cons] at h
  rw [List.foldl_cons]
  have : cntStep (n : Int) p = ((n + 1 : Nat) : Int) := by
   unfold cntStep
   rw [IntWalk.i64_in _ (by omega)]
   omega
  rw [this, cnt_fold l (n + 1) (by omega)]
  simp only [List.length_cons]
  omega
theorem or_fold (c : List Bool) : ∀ (l : List PredT) (b : Bool), l.foldl (fun b p => b || !partOk c p) b = (b || !l.all (partOk c))
 | [], b => by simp
 | p :: l, b => by
  rw [List.foldl_cons, or_fold c l]
  simp only [List.all_cons]
  cases b <;> cases partOk c p <;> simp
end Go.Proofs.YtgljdkjepdknnaaGreatDoor

/- Whether a predicate may be: pred.Size, pred.Check. -/
namespace Go.Proofs.YtgljdkjepdknnaaGreatDoor
open Go.ChangeShapes Go.WideShapes Go.ChangeAt Go.RowKit
set_option maxRecDepth 100000
set_option linter.unusedSimpArgs false

theorem set1_S {B w : World} {D : PH} {l : List HP} {b : Nat} {t : TypeId} {y : Value} (hs : Sat B D w (Proofs.YtgljdkjepdknnaaGreatDoor.blk b #[y] t :: l)) (u : Value) : Sat B D (w.setCell ⟨b, 0, none⟩ u) (Proofs.YtgljdkjepdknnaaGreatDoor.blk b #[u] t :: l) := hs.set 0 u
theorem sizeF {B : World} {D : PH} {nb : Nat} (x : PredE) (s : Int) (W : World) (X : List HP) (h : Sat B D W (blk nb #[.int .i64 s] 3 :: X)) :
  Calls Tryz.prog 166 (#[] ++ #[.agg x.cells.toArray] ++ #[.pointer (some ⟨nb, 0, none⟩)]) W fun e W' => e = .returned (.tuple #[]) ∧ Sat B D W' (blk nb #[.int .i64 (cntStep s x.p)] 3 :: X) := by
 obtain ⟨W1, hW1, hs1⟩ := Sat.hide (h.alloc x.cells.toArray tPr)
 have HW1 := Lib.hid hW1
 obtain ⟨n0, nf⟩ := cells1 (hs1.blk 1 rfl)
 have HS1 := Lib.hid (set1_S hs1.swap (.int .i64 (IntKind.i64.wrap (s + 1))))
 clear h hs1 hW1
 show Calls Tryz.prog 166 #[.agg x.cells.toArray, .pointer (some ⟨nb, 0, none⟩)] W _
 go_enter Tryz.func166, Tryz.ntmps166
 go_upto_region 1 with fail
 rw [← HW1.out]
 clear HW1
 go_wp2_with fail
 go_end0
 have h9 := HS1.out.swap.drop
 rw [IntWalk.i64_left] at h9
 refine ⟨rfl, ?_⟩
 unfold cntStep
 rw [IntWalk.i64_left]
 exact h9
set_option maxHeartbeats 2000000 in
theorem size_ok {B w : World} {D : PH} {l : List HP} (x : PredE) (hat : PredsAt D (.slice x.la x.ln x.lc) x.subs) (hn : x.p.nodes.length ≤ 1000000) (h : Sat B D w l) :
  Calls Tryz.prog 127 #[.agg x.cells.toArray] w fun e w' => e = .returned (.int .i64 (x.p.nodes.length : Int)) ∧ Sat B D w' l := by
 obtain ⟨W1, hW1, hs1⟩ := two_new h x.cells.toArray #[.int .i64 0] tPr 3
 have HW1 := Lib.hid hW1
 have HL := Lib.hid (loadPr (blk_range (hs1.blk 0 rfl)))
 have HEA := Lib.hid (each_ok (fun n : Int => blk (w.heap.size + 1) #[.int .i64 n] 3) cntStep (F := 166) (first := #[]) (caps := #[.pointer (some ⟨w.heap.size + 1, 0, none⟩)]) (enters_of Tryz.func166 (by kernel_rfl) rfl) (fun y s W X _ hX => sizeF y s W X hX) x.p x 0 W1 (blk w.heap.size x.cells.toArray tPr :: l) rfl hat hs1.swap)
 have HC := Lib.hid (cnt_fold x.p.nodes 0 (by omega))
 clear h hs1 hW1 hat hn
 go_enter Tryz.func127, Tryz.ntmps127
 go_upto_region 2 with fail
 rw [← HW1.out]
 clear HW1
 generalize w.heap.size + 1 = bn at HEA ⊢
 generalize w.heap.size = bx at HL HEA ⊢
 go_upto_region 3 with (first | (refine wpList_ld rfl _ _ rfl _ _ rfl _ HL.out ?_) | (go_at_call 126; refine HEA.out.mono ?_; rintro e1 w1 ⟨rfl, hs2⟩; have HS2 := Lib.hid hs2; clear hs2 HEA HL))
 obtain ⟨n0, _⟩ := cells1 (HS2.out.blk 0 rfl)
 rw [show List.foldl cntStep 0 x.p.nodes = (x.p.nodes.length : Int) from by have := HC.out; simpa using this] at n0
 go_wp2_with fail
 go_ret
 exact ⟨rfl, HS2.out.drop.drop⟩
theorem cells2v {w : World} {b : Nat} {y0 y1 : Value} {t : TypeId} (h : w.heap[b]? = some (.cells #[y0, y1] t (0, 0))) : w.cell? ⟨b, 0, none⟩ = some y0 ∧ w.cell? ⟨b, 1, none⟩ = some y1 ∧ (∀ j, w.frozen? ⟨b, j, none⟩ = false) := cells2 h
set_option maxHeartbeats 4000000 in
theorem predChk_ok {B w : World} {D : PH} {l : List HP} {cv : Value} {c : List Bool} (x : PredE) (hc : RdP D 1 cv c.length (c.flatMap bcells)) (hm : mayT c = true) (hat : PredsAt D (.slice x.la x.ln x.lc) x.subs) (hn : x.p.nodes.length ≤ 1000000) (h : Sat B D w l) :
  Calls Tryz.prog 81 #[.agg #[cv], .agg x.cells.toArray] w fun e w' => e = .returned (.int .i64 (if predMay c x.p then 0 else 30)) ∧ Sat B D w' l := by
 obtain ⟨rr, hrr⟩ : ∃ rr : Int, rr = (if predMay c x.p then 0 else 30) := ⟨_, rfl⟩
 rw [← hrr]
 have HRR := Lib.hid hrr
 clear hrr
 obtain ⟨W1, hW1, hs1⟩ := two_new h #[cv] x.cells.toArray tTab tPr
 have HW1 := Lib.hid hW1
 have HS1 := Lib.hid hs1
 have HL := Lib.hid (loadPr (blk_range (hs1.blk 1 rfl)))
 have HCHK := Lib.hid (rowChk_ok (hc.rd hs1))
 rw [show chk c = 0 by unfold chk; rw [hm]; rfl] at HCHK
 obtain ⟨t0, tf⟩ := cells1 (hs1.blk 0 rfl)
 obtain ⟨_, _, ca, cc, rfl, _⟩ := id hc
 have HC := Lib.hid hc
 have HAT := Lib.hid hat
 have HNN := Lib.hid hn
 clear h hs1 hW1 hc hat hn hm
 go_enter Tryz.func81, Tryz.ntmps81
 go_upto_region 1 with fail
 rw [← HW1.out]
 clear HW1
 generalize w.heap.size + 1 = b2 at *
 generalize w.heap.size = b1 at *
 go_upto_region 4 with (go_at_call 78; refine HCHK.out.mono ?_; rintro e1 w1 ⟨rfl, hk1⟩; have HS2 := Lib.hid (HS1.out.kept hk1); clear hk1 HCHK HS1 HL t0 tf)
 obtain ⟨t0, tf⟩ := cells1 (HS2.out.blk 0 rfl)
 have HS3 := Lib.hid (HS2.out.alloc #[.slice ca c.length cc, .bool false] tCk)
 go_upto_region 6 with fail
 obtain ⟨W4, hW4, hs4⟩ := Sat.hide HS3.out
 rw [← hW4]
 clear hW4 HS3 HS2 t0 tf
 generalize w1.heap.size = ck at hs4 ⊢
 have HL := Lib.hid (loadPr (blk_range (hs4.blk 2 rfl)))
 have HEA := Lib.hid (each_ok (fun b : Bool => blk ck #[.slice ca c.length cc, .bool b] tCk) (fun b p => b || !partOk c p) (F := 125) (first := #[.pointer (some ⟨ck, 0, none⟩)]) (caps := #[]) (enters_of Tryz.func125 (by kernel_rfl) rfl) (fun y s W X hy hX => part_ok y hy (fun W2 k => HC.out.rd (hX.kept k)) hX) x.p x false W4 _ rfl HAT.out hs4)
 have HOR := Lib.hid (or_fold c x.p.nodes false)
 clear hs4
 go_upto_region 7 with (first | (refine wpList_ld rfl _ _ rfl _ _ rfl _ HL.out ?_) | (go_at_call 126; refine HEA.out.mono ?_; rintro e5 w5 ⟨rfl, hs5⟩; have HS5 := Lib.hid hs5; clear hs5 HEA HL))
 rw [HOR.out] at HS5
 obtain ⟨k0, k1, kf⟩ := cells2v (HS5.out.blk 0 rfl)
 have HL := Lib.hid (loadPr (blk_range (HS5.out.blk 2 rfl)))
 have HSZ := Lib.hid (size_ok x HAT.out HNN.out HS5.out)
 cases ha : x.p.nodes.all (partOk c)
 ·have HO := Lib.hid (show (if predMay c x.p then (0 : Int) else 30) = 30 by unfold predMay; rw [ha]; rfl)
  rw [ha, show (false || !false) = true from rfl] at k1
  clear ha
  go_wp2_with fail
  go_ret
  exact ⟨by rw [HRR.out, HO.out]; rfl, HS5.out.drop.drop.drop⟩
 ·rw [ha, show (false || !true) = false from rfl] at k1
  obtain ⟨N, hN⟩ : ∃ N, x.p.nodes.length = N := ⟨_, rfl⟩
  rw [hN] at HSZ
  by_cases h15 : N ≤ 15
  ·have HO := Lib.hid (show (if predMay c x.p then (0 : Int) else 30) = 0 by unfold predMay; rw [ha, hN, decide_eq_true h15]; rfl)
   have h1 : ¬ (N : Int) > 15 := by omega
   clear ha hN
   go_wp2_with (first | (refine wpList_ldw rfl _ _ rfl _ _ rfl _ HL.out ?_) | (go_at_call 127; refine HSZ.out.mono ?_; rintro e6 w6 ⟨rfl, hs6⟩; have HS6 := Lib.hid hs6; clear hs6 HSZ HL k0 k1 kf))
   go_ret
   exact ⟨by rw [HRR.out, HO.out]; rfl, HS6.out.drop.drop.drop⟩
  ·have HO := Lib.hid (show (if predMay c x.p then (0 : Int) else 30) = 30 by unfold predMay; rw [ha, hN, decide_eq_false h15]; rfl)
   have h1 : (N : Int) > 15 := by omega
   clear ha hN
   go_wp2_with (first | (refine wpList_ldw rfl _ _ rfl _ _ rfl _ HL.out ?_) | (go_at_call 127; refine HSZ.out.mono ?_; rintro e6 w6 ⟨rfl, hs6⟩; have HS6 := Lib.hid hs6; clear hs6 HSZ HL k0 k1 kf))
   go_ret
   exact ⟨by rw [HRR.out, HO.out]; rfl, HS6.out.drop.drop.drop⟩
end Go.Proofs.YtgljdkjepdknnaaGreatDoor
