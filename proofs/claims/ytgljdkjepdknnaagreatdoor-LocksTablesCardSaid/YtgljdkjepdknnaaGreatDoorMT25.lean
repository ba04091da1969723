/- Joined texts: Going through a predicate's parts (pred.each); how many there are; whether it may be (pred.Check). Whether a predicate may be: pred.Size, pred.Check. Whether a claim may be on these tables (claim.Check): a table's, a row's; a predicate's. Whether a claim may be (claim.Check). -/
import Derived.Test.YtgljdkjepdknnaaGreatDoorMT24
import Derived.Test.YtgljdkjepdknnaaGreatDoorMT10
import Derived.Test.YtgljdkjepdknnaaGreatDoorMT22
set_option maxHeartbeats 64000000
namespace Go.Proofs.YtgljdkjepdknnaaGreatDoor
open Go.ChangeShapes Go.WideShapes Go.ChangeAt Go.RowKit
set_option maxRecDepth 100000
set_option linter.unusedSimpArgs false
theorem pj {B : World} {D : PH} {S : Type} (H : S → HP) (step : S → PredT → S) {F : Nat} {first caps : Array Value} (hent : Enters Tryz.prog F)
  (HF : ∀ (x : PredE) (s : S) (W : World) (X : List HP), x.ln = x.subs.length → Sat B D W (H s :: X) → Calls Tryz.prog F (first ++ #[.agg x.cells.toArray] ++ caps) W fun e W' => e = .returned (.tuple #[]) ∧ Sat B D W' (H (step s x.p) :: X)) :
  ∀ (p : PredT) (x : PredE) (s : S) (w : World) (X : List HP), x.p = p → PredsAt D (.slice x.la x.ln x.lc) x.subs → Sat B D w (H s :: X) →
   Calls Tryz.prog 126 #[.agg x.cells.toArray, .func (.func F) first caps] w fun e w' => e = .returned (.tuple #[]) ∧ Sat B D w' (H (p.nodes.foldl step s) :: X) := by
 refine PredT.ind fun op col v w0 pl ih x s w X hx hat hs => ?_
 have hl : x.subs = pl := by unfold PredE.p at hx; cases hx; rfl
 obtain ⟨es, hrd, hsub, hes⟩ : ∃ es : List PredE, RdP D 9 (.slice x.la x.ln x.lc) es.length (es.flatMap PredE.cells) ∧ x.subs = es.map PredE.p ∧ ∀ e ∈ es, PredsAt D (.slice e.la e.ln e.lc) e.subs := by
  generalize x.subs = xs at hat
  cases hat with
  | mk _ es he hes => exact ⟨es, he, rfl, hes⟩
 have vT := BO (show ∀ (e : PredE) (s : S) (w : World) (X : List HP), e ∈ es → Sat B D w (H s :: X) → Calls Tryz.prog 126 #[.agg e.cells.toArray, .func (.func F) first caps] w fun r w' => r = .returned (.tuple #[]) ∧ Sat B D w' (H (e.p.nodes.foldl step s) :: X) from
  fun e s w X he hs => ih e.p (by rw [← hl, hsub]; exact List.mem_map_of_mem he) e s w X rfl (hes e he) hs)
 obtain ⟨_, _, ra, rc, hav, _⟩ := id hrd
 have hln : x.ln = es.length := (Value.slice.inj hav).2.1
 obtain ⟨W1, hW1, hs1⟩ := Sat.hide (hs.alloc x.cells.toArray tPr)
 have HC := BO (HF x s W1 (blk w.heap.size x.cells.toArray tPr :: X) (by rw [hln, hsub, List.length_map]) hs1.swap)
 have HL := BO (bu (ai (hs1.blk 0 rfl)))
 have HG := BO (show (PredT.mk op col v w0 pl).nodes.foldl step s = (es.flatMap (fun e => e.p.nodes)).foldl step (step s x.p) by
  rw [gd, List.foldl_cons, ← hx, ← hl, hsub, List.flatMap_map])
 rw [HG.out]
 have s5 := BO hrd
 have sR := BO hW1
 have tE := BO hln
 have hle := hrd.2.1
 unfold maxLen at hle
 clear ih hx hat hs hs1 hW1 hl hsub hes hrd hav hln HF HG
 unfold Enters at hent
 generalize step s x.p = s1 at *
 go_enter Tryz.func126, Tryz.ntmps126
 go_upto_region 1 with fail
 rw [← sR.out]
 clear sR
 generalize w.heap.size = bx at HC HL ⊢
 go_upto_region 2 with (first | (refine ag rfl _ _ rfl _ _ rfl _ HL.out ?_) | (refine HC.out.mono ?_; rintro e1 w1 ⟨rfl, hs2⟩; have sX := BO hs2; clear hs2 HC HL))
 clear hent
 obtain ⟨x0, x1, x2, x3, x4, x5, x6, x7, x8⟩ := aK (sX.out.blk 1 rfl)
 rw [tE.out] at x8 s5
 obtain ⟨N, hN⟩ : ∃ N, es.length = N := ⟨_, rfl⟩
 rw [hN] at x8 s5 hle
 have HN := BO hN
 obtain ⟨la, hla⟩ : ∃ la, la = x.la := ⟨_, rfl⟩
 obtain ⟨lc, hlc⟩ : ∃ lc, lc = x.lc := ⟨_, rfl⟩
 rw [← hla, ← hlc] at x8 s5
 clear hN tE hla hlc
 go_wp2_with fail
 clear x0 x1 x2 x3 x4 x5 x6 x7 x8
 go_loopw [12] (fun i wr => ∃ j : Nat, i = .int .i64 j ∧ j ≤ N ∧ Sat B D wr (H (((es.take j).flatMap (fun e => e.p.nodes)).foldl step s1) :: blk bx x.cells.toArray tPr :: X)) (fun i _ => N - (intOf i).toNat)
 case atStart => exact ⟨0, rfl, by omega, sX.out⟩
 case round =>
  obtain ⟨j, rfl, hj, hs3⟩ := hrel
  have sU := BO hs3
  clear hs3 sX
  by_cases hlt : j < N
  ·have hji : (j : Int) < (N : Int) := by omega
   obtain ⟨e, he⟩ : ∃ e, es[j]? = some e := ⟨es[j]'(by rw [HN.out]; exact hlt), List.getElem?_eq_getElem _⟩
   obtain ⟨g, og, rfl, hrng⟩ := aD PredE.len (s5.out.rd sU.out) he HN.out
   have tt := BO (bu hrng)
   have vI := BO (show ((es.take (j + 1)).flatMap (fun e => e.p.nodes)).foldl step s1 = e.p.nodes.foldl step (((es.take j).flatMap (fun e => e.p.nodes)).foldl step s1) by
    rw [List.take_add_one, he, List.flatMap_append, List.foldl_append]; simp)
   have we := BO (List.mem_of_getElem? he)
   have sY := BO (sU.out.alloc e.cells.toArray tPr)
   clear he hrng
   generalize hsg : ((es.take j).flatMap (fun e => e.p.nodes)).foldl step s1 = sg at *
   go_upto_region 5 with (first | (refine ag rfl _ _ rfl _ _ rfl _ tt.out ?_) | (refine ax rfl _ _ _ rfl e.cells _ _ rfl rfl (by kernel_rfl) rfl (PredE.one e) ?_))
   obtain ⟨W5, hW5, hs5⟩ := Sat.hide sY.out
   rw [← hW5]
   clear hW5 sY sU tt
   generalize wr.heap.size = b5 at hs5 ⊢
   have wl := BO (bu (ai (hs5.blk 0 rfl)))
   have A2 := BO (vT.out e sg W5 _ we.out hs5.swap)
   clear hs5
   go_wp2_with (first | (refine ag rfl _ _ rfl _ _ rfl _ wl.out ?_) | (go_at_call 126; refine A2.out.mono ?_; rintro e6 w6 ⟨rfl, hs6⟩; have s0 := BO hs6; clear hs6 A2 wl))
   go_roundw
   case rel => exact ⟨j + 1, by go_num, by omega, by rw [vI.out]; exact s0.out.swap.drop⟩
   case measure => simp [intOf]; omega
  ·have hji : ¬ ((j : Int) < (N : Int)) := by omega
   obtain rfl : j = N := by omega
   have HT := BO (show es.take j = es by rw [← HN.out, List.take_length])
   go_wp2_with fail
   go_end0
   exact ⟨rfl, by rw [HT.out] at sU; exact sU.out.swap.drop⟩
def fP (n : Int) (_ : PredT) : Int := IntKind.i64.wrap (n + 1)
theorem mO : ∀ (l : List PredT) (n : Nat), n + l.length ≤ 1000000 → l.foldl fP (n : Int) = ((n + l.length : Nat) : Int)
 | [], n, _ => rfl
 | p :: l, n, h => by
  simp only [List.length_cons] at h
  rw [List.foldl_cons]
  have : fP (n : Int) p = ((n + 1 : Nat) : Int) := by
   unfold fP
   rw [IntWalk.i64_in _ (by omega)]
   omega
  rw [this, mO l (n + 1) (by omega)]
  simp only [List.length_cons]
  omega
theorem py (c : List Bool) : ∀ (l : List PredT) (b : Bool), l.foldl (fun b p => b || !az c p) b = (b || !l.all (az c))
 | [], b => by simp
 | p :: l, b => by
  rw [List.foldl_cons, py c l]
  simp only [List.all_cons]
  cases b <;> cases az c p <;> simp
theorem set1_S {B w : World} {D : PH} {l : List HP} {b : Nat} {t : TypeId} {y : Value} (hs : Sat B D w (Proofs.YtgljdkjepdknnaaGreatDoor.blk b #[y] t :: l)) (u : Value) : Sat B D (w.setCell ⟨b, 0, none⟩ u) (Proofs.YtgljdkjepdknnaaGreatDoor.blk b #[u] t :: l) := hs.set 0 u
theorem sizeF {B : World} {D : PH} {nb : Nat} (x : PredE) (s : Int) (W : World) (X : List HP) (h : Sat B D W (blk nb #[.int .i64 s] 3 :: X)) :
  Calls Tryz.prog 166 (#[] ++ #[.agg x.cells.toArray] ++ #[.pointer (some ⟨nb, 0, none⟩)]) W fun e W' => e = .returned (.tuple #[]) ∧ Sat B D W' (blk nb #[.int .i64 (fP s x.p)] 3 :: X) := by
 obtain ⟨W1, hW1, hs1⟩ := Sat.hide (h.alloc x.cells.toArray tPr)
 have sR := BO hW1
 obtain ⟨n0, nf⟩ := aM (hs1.blk 1 rfl)
 have sS := BO (set1_S hs1.swap (.int .i64 (IntKind.i64.wrap (s + 1))))
 clear h hs1 hW1
 show Calls Tryz.prog 166 #[.agg x.cells.toArray, .pointer (some ⟨nb, 0, none⟩)] W _
 go_enter Tryz.func166, Tryz.ntmps166
 go_upto_region 1 with fail
 rw [← sR.out]
 clear sR
 go_wp2_with fail
 go_end0
 have h9 := sS.out.swap.drop
 rw [IntWalk.i64_left] at h9
 refine ⟨rfl, ?_⟩
 unfold fP
 rw [IntWalk.i64_left]
 exact h9
theorem size_ok {B w : World} {D : PH} {l : List HP} (x : PredE) (hat : PredsAt D (.slice x.la x.ln x.lc) x.subs) (hn : x.p.nodes.length ≤ 1000000) (h : Sat B D w l) :
  Calls Tryz.prog 127 #[.agg x.cells.toArray] w fun e w' => e = .returned (.int .i64 (x.p.nodes.length : Int)) ∧ Sat B D w' l := by
 obtain ⟨W1, hW1, hs1⟩ := cy h x.cells.toArray #[.int .i64 0] tPr 3
 have sR := BO hW1
 have HL := BO (bu (ai (hs1.blk 0 rfl)))
 have yy := BO (pj (fun n : Int => blk (w.heap.size + 1) #[.int .i64 n] 3) fP (F := 166) (first := #[]) (caps := #[.pointer (some ⟨w.heap.size + 1, 0, none⟩)]) (enters_of Tryz.func166 (by kernel_rfl) rfl) (fun y s W X _ hX => sizeF y s W X hX) x.p x 0 W1 (blk w.heap.size x.cells.toArray tPr :: l) rfl hat hs1.swap)
 have HC := BO (mO x.p.nodes 0 (by omega))
 clear h hs1 hW1 hat hn
 go_enter Tryz.func127, Tryz.ntmps127
 go_upto_region 2 with fail
 rw [← sR.out]
 clear sR
 generalize w.heap.size + 1 = bn at yy ⊢
 generalize w.heap.size = bx at HL yy ⊢
 go_upto_region 3 with (first | (refine ag rfl _ _ rfl _ _ rfl _ HL.out ?_) | (go_at_call 126; refine yy.out.mono ?_; rintro e1 w1 ⟨rfl, hs2⟩; have sX := BO hs2; clear hs2 yy HL))
 obtain ⟨n0, _⟩ := aM (sX.out.blk 0 rfl)
 rw [show List.foldl fP 0 x.p.nodes = (x.p.nodes.length : Int) from by have := HC.out; simpa using this] at n0
 go_wp2_with fail
 go_ret
 exact ⟨rfl, sX.out.drop.drop⟩
theorem cells2v {w : World} {b : Nat} {y0 y1 : Value} {t : TypeId} (h : w.heap[b]? = some (.cells #[y0, y1] t (0, 0))) : w.cell? ⟨b, 0, none⟩ = some y0 ∧ w.cell? ⟨b, 1, none⟩ = some y1 ∧ (∀ j, w.frozen? ⟨b, j, none⟩ = false) := aH h
theorem nO {B w : World} {D : PH} {l : List HP} {cv : Value} {c : List Bool} (x : PredE) (hc : RdP D 1 cv c.length (c.flatMap dH)) (hm : fA c = true) (hat : PredsAt D (.slice x.la x.ln x.lc) x.subs) (hn : x.p.nodes.length ≤ 1000000) (h : Sat B D w l) :
  Calls Tryz.prog 81 #[.agg #[cv], .agg x.cells.toArray] w fun e w' => e = .returned (.int .i64 (if cA c x.p then 0 else 30)) ∧ Sat B D w' l := by
 obtain ⟨rr, hrr⟩ : ∃ rr : Int, rr = (if cA c x.p then 0 else 30) := ⟨_, rfl⟩
 rw [← hrr]
 have tl := BO hrr
 clear hrr
 obtain ⟨W1, hW1, hs1⟩ := cy h #[cv] x.cells.toArray dz tPr
 have sR := BO hW1
 have sS := BO hs1
 have HL := BO (bu (ai (hs1.blk 1 rfl)))
 have t9 := BO (i6 (hc.rd hs1))
 rw [show chk c = 0 by unfold chk; rw [hm]; rfl] at t9
 obtain ⟨t0, tf⟩ := aM (hs1.blk 0 rfl)
 obtain ⟨_, _, ca, cc, rfl, _⟩ := id hc
 have HC := BO hc
 have uR := BO hat
 have wn := BO hn
 clear h hs1 hW1 hc hat hn hm
 go_enter Tryz.func81, Tryz.ntmps81
 go_upto_region 1 with fail
 rw [← sR.out]
 clear sR
 generalize w.heap.size + 1 = b2 at *
 generalize w.heap.size = b1 at *
 go_upto_region 4 with (go_at_call 78; refine t9.out.mono ?_; rintro e1 w1 ⟨rfl, hk1⟩; have sX := BO (sS.out.kept hk1); clear hk1 t9 sS HL t0 tf)
 obtain ⟨t0, tf⟩ := aM (sX.out.blk 0 rfl)
 have sU := BO (sX.out.alloc #[.slice ca c.length cc, .bool false] tCk)
 go_upto_region 6 with fail
 obtain ⟨W4, hW4, hs4⟩ := Sat.hide sU.out
 rw [← hW4]
 clear hW4 sU sX t0 tf
 generalize w1.heap.size = ck at hs4 ⊢
 have HL := BO (bu (ai (hs4.blk 2 rfl)))
 have yy := BO (pj (fun b : Bool => blk ck #[.slice ca c.length cc, .bool b] tCk) (fun b p => b || !az c p) (F := 125) (first := #[.pointer (some ⟨ck, 0, none⟩)]) (caps := #[]) (enters_of Tryz.func125 (by kernel_rfl) rfl) (fun y s W X hy hX => part_ok y hy (fun W2 k => HC.out.rd (hX.kept k)) hX) x.p x false W4 _ rfl uR.out hs4)
 have Bx := BO (py c x.p.nodes false)
 clear hs4
 go_upto_region 7 with (first | (refine ag rfl _ _ rfl _ _ rfl _ HL.out ?_) | (go_at_call 126; refine yy.out.mono ?_; rintro e5 w5 ⟨rfl, hs5⟩; have sV := BO hs5; clear hs5 yy HL))
 rw [Bx.out] at sV
 obtain ⟨k0, k1, kf⟩ := cells2v (sV.out.blk 0 rfl)
 have HL := BO (bu (ai (sV.out.blk 2 rfl)))
 have wZ := BO (size_ok x uR.out wn.out sV.out)
 cases ha : x.p.nodes.all (az c)
 ·have HO := BO (show (if cA c x.p then (0 : Int) else 30) = 30 by unfold cA; rw [ha]; rfl)
  rw [ha, show (false || !false) = true from rfl] at k1
  clear ha
  go_wp2_with fail
  go_ret
  exact ⟨by rw [tl.out, HO.out]; rfl, sV.out.drop.drop.drop⟩
 ·rw [ha, show (false || !true) = false from rfl] at k1
  obtain ⟨N, hN⟩ : ∃ N, x.p.nodes.length = N := ⟨_, rfl⟩
  rw [hN] at wZ
  by_cases h15 : N ≤ 15
  ·have HO := BO (show (if cA c x.p then (0 : Int) else 30) = 0 by unfold cA; rw [ha, hN, decide_eq_true h15]; rfl)
   have h1 : ¬ (N : Int) > 15 := by omega
   clear ha hN
   go_wp2_with (first | (refine bG rfl _ _ rfl _ _ rfl _ HL.out ?_) | (go_at_call 127; refine wZ.out.mono ?_; rintro e6 w6 ⟨rfl, hs6⟩; have s0 := BO hs6; clear hs6 wZ HL k0 k1 kf))
   go_ret
   exact ⟨by rw [tl.out, HO.out]; rfl, s0.out.drop.drop.drop⟩
  ·have HO := BO (show (if cA c x.p then (0 : Int) else 30) = 30 by unfold cA; rw [ha, hN, decide_eq_false h15]; rfl)
   have h1 : (N : Int) > 15 := by omega
   clear ha hN
   go_wp2_with (first | (refine bG rfl _ _ rfl _ _ rfl _ HL.out ?_) | (go_at_call 127; refine wZ.out.mono ?_; rintro e6 w6 ⟨rfl, hs6⟩; have s0 := BO hs6; clear hs6 wZ HL k0 k1 kf))
   go_ret
   exact ⟨by rw [tl.out, HO.out]; rfl, s0.out.drop.drop.drop⟩
def dM (c : List Bool) (k : Val) (r : List Val) : Bool := r.isEmpty || (ex c r && decide (r.head? = some k))
def cm (c : List Bool) (x : Clm) : Bool := a9 x.key && decide (x.key.t = c.getD 0 false) && (if x.mode = 3 ∨ x.mode = 5 then x.imgs.isEmpty else if x.mode = 6 then x.imgs.all (dM c x.key) else false)
def dC (c : List Bool) (x : Clm) : Bool := if x.kind = 1 then br x.mode && !decide (x.mode = 0) else if x.kind = 2 then cm c x else if x.kind = 3 then decide (x.mode = 3) && cA c x.pred else false
def bK (ts : List (List Bool)) (x : Clm) : Bool := decide (0 ≤ x.table) && decide (x.table < (ts.length : Int)) && fA (ts.getD x.table.toNat []) && dC (ts.getD x.table.toNat []) x
theorem fM {w : World} {b : Nat} {x : ClmE} {t : TypeId} {fr : Nat × Nat} (h : w.heap[b]? = some (.cells x.cells.toArray t fr)) : w.cell? ⟨b, 3, none⟩ = some (.bool x.key.t) ∧ w.cell? ⟨b, 4, none⟩ = some (.int .i64 x.key.n) ∧ w.cell? ⟨b, 5, none⟩ = some (.string x.key.s) := by
 refine ⟨?_, ?_, ?_⟩ <;> simp [World.cell?, h, ClmE.cells]
theorem onRow1F {w : World} {bt bc : Nat} {cv : Value} {c : List Bool} {x : ClmE} (h1 : w.heap[bt]? = some (.cells #[cv] dz (0, 0))) (h2 : w.heap[bc]? = some (.cells x.cells.toArray tCl (0, 0))) (hc : da w cv c) (r : List Val) :
  PredR 123 #[.pointer (some ⟨bt, 0, none⟩), .pointer (some ⟨bc, 0, none⟩)] w r (dM c x.key r) := by
 refine ⟨enters_of Tryz.func123 (by kernel_rfl) rfl, fun W hv hW hr => ?_⟩
 obtain ⟨t0, tf⟩ := aM (aA hW.drew h1)
 have s7 := BO (aA hW h2)
 have HC := BO (Rd.kept hc hW.drew (fun _ _ h => h))
 have HR := BO (Rd.kept hr (Kept.refl (fun _ => False) W).drew (fun _ _ h => h))
 obtain ⟨_, m1, ra, rc, rfl, _⟩ := hr
 unfold maxLen at m1
 clear hW h1 h2 hc
 show Calls Tryz.prog 123 #[.slice ra r.length rc, .pointer (some ⟨bt, 0, none⟩), .pointer (some ⟨bc, 0, none⟩)] W _
 have Ak := BO ((Kept.refl (fun _ => False) W).drew)
 cases r with
 | nil =>
  have HO := BO (show dM c x.key [] = true from rfl)
  rw [HO.out]
  clear HR HC HO
  go_enter Tryz.func123, Tryz.ntmps123
  go_upto_region 1 with fail
  refine af [(0, false, 6), (1, false, 6), (2, false, 6), (3, false, 6), (4, false, 6), (5, false, 6), (6, true, 0), (7, false, 999), (8, false, 999), (9, false, 999), (10, false, 999), (11, false, 999), (12, false, 999), (13, false, 999), (14, false, 999), (15, false, 999), (16, false, 999)] (by kernel_rfl) (by kernel_rfl) ?_
  iterate 4 (refine ae rfl rfl (fun K hK => ?_); go_simp; refine hK _ ?_; clear hK K)
  iterate 2 (first | (refine am rfl rfl ?_; simp only [Act.put, BP, BQ, BR, BS, BT, BU]) | (refine ak rfl rfl (fun K hK => ?_); go_simp; refine hK _ ?_; clear hK K))
  refine al rfl ?_
  refine bI rfl ?_
  simp only [Act.put, BP, BQ, BR]
  refine wpList_nil ?_
  refine And.intro ?_ ?_
  ·go_simp
  iterate 8 (first | (refine am rfl rfl ?_; simp only [Act.put, BP, BQ, BR, BS, BT, BU]) | (refine ak rfl rfl (fun K hK => ?_); go_simp; refine hK _ ?_; clear hK K))
  iterate 2 (refine ae rfl rfl (fun K hK => ?_); go_simp; refine hK _ ?_; clear hK K)
  refine ap ?_
  go_wp2_with fail
  go_ret
  exact ⟨rfl, Ak.out⟩
 | cons y r =>
  have vm := BO (nE HC.out HR.out)
  obtain ⟨rg, rog, rfl⟩ := jz HR.out (k := 0) (x := y) rfl rfl
  obtain ⟨N, hN⟩ : ∃ N, (y :: r).length = N := ⟨_, rfl⟩
  have hN1 : ¬ N = 0 := by intro h; rw [h] at hN; cases hN
  have hN2 : ((N : Int) == 0) = false := by simp; omega
  have hN3 : 0 < N := by omega
  have HN := BO hN
  rw [hN] at HR vm m1
  rw [hN]
  clear hN
  cases hf : ex c (y :: r)
  ·have HO := BO (show dM c x.key (y :: r) = false by unfold dM; rw [hf]; rfl)
   rw [HO.out]
   rw [hf] at vm
   clear HR HC HO hf
   go_enter Tryz.func123, Tryz.ntmps123
   go_upto_region 1 with fail
   refine af [(0, false, 6), (1, false, 6), (2, false, 6), (3, false, 6), (4, false, 6), (5, false, 6), (6, true, 0), (7, false, 999), (8, false, 999), (9, false, 999), (10, false, 999), (11, false, 999), (12, false, 999), (13, false, 999), (14, false, 999), (15, false, 999), (16, false, 999)] (by kernel_rfl) (by kernel_rfl) ?_
   iterate 4 (refine ae rfl rfl (fun K hK => ?_); go_simp; refine hK _ ?_; clear hK K)
   iterate 2 (first | (refine am rfl rfl ?_; simp only [Act.put, BP, BQ, BR, BS, BT, BU]) | (refine ak rfl rfl (fun K hK => ?_); go_simp; refine hK _ ?_; clear hK K))
   refine al rfl ?_
   refine aw rfl (fun K hK => ?_)
   go_simp
   refine vm.out.mono ?_
   rintro e1 w1 ⟨rfl, hk1⟩
   have sW := BO (Ak.out.trans hk1 (fun _ h => h.elim))
   clear hk1 vm t0 tf
   refine hK _ _ ?_
   clear hK K
   refine wpList_nil ?_
   refine And.intro ?_ ?_
   ·go_simp
   iterate 8 (first | (refine am rfl rfl ?_; simp only [Act.put, BP, BQ, BR, BS, BT, BU]) | (refine ak rfl rfl (fun K hK => ?_); go_simp; refine hK _ ?_; clear hK K))
   iterate 2 (refine ae rfl rfl (fun K hK => ?_); go_simp; refine hK _ ?_; clear hK K)
   refine ap ?_
   go_wp2_with fail
   go_ret
   exact ⟨rfl, sW.out⟩
  ·have HO := BO (show dM c x.key (y :: r) = b6 y.t y.n y.s x.key.t x.key.n x.key.s by unfold dM; rw [hf, bH]; simp)
   rw [HO.out]
   rw [hf] at vm
   clear HC HO hf
   go_enter Tryz.func123, Tryz.ntmps123
   go_upto_region 1 with fail
   refine af [(0, false, 6), (1, false, 6), (2, false, 6), (3, false, 6), (4, false, 6), (5, false, 6), (6, true, 0), (7, false, 999), (8, false, 999), (9, false, 999), (10, false, 999), (11, false, 999), (12, false, 999), (13, false, 999), (14, false, 999), (15, false, 999), (16, false, 999)] (by kernel_rfl) (by kernel_rfl) ?_
   iterate 4 (refine ae rfl rfl (fun K hK => ?_); go_simp; refine hK _ ?_; clear hK K)
   iterate 2 (first | (refine am rfl rfl ?_; simp only [Act.put, BP, BQ, BR, BS, BT, BU]) | (refine ak rfl rfl (fun K hK => ?_); go_simp; refine hK _ ?_; clear hK K))
   refine al rfl ?_
   refine aw rfl (fun K hK => ?_)
   go_simp
   refine vm.out.mono ?_
   rintro e1 w1 ⟨rfl, hk1⟩
   have sW := BO (Ak.out.trans hk1 (fun _ h => h.elim))
   obtain ⟨y0, y1, y2⟩ := fE (h := 0) (x := y) (Rd.kept HR.out hk1 (fun _ _ h => h)) rfl
   rw [Nat.zero_mul, Nat.add_zero] at y0 y1 y2
   obtain ⟨k0, k1, k2⟩ := fM (aA sW.out s7.out)
   clear hk1 vm t0 tf
   refine hK _ _ ?_
   clear hK K
   refine wpList_nil ?_
   refine And.intro ?_ ?_
   ·go_simp
   iterate 8 (first | (refine am rfl rfl ?_; simp only [Act.put, BP, BQ, BR, BS, BT, BU]) | (refine ak rfl rfl (fun K hK => ?_); go_simp; refine hK _ ?_; clear hK K))
   iterate 2 (refine ae rfl rfl (fun K hK => ?_); go_simp; refine hK _ ?_; clear hK K)
   refine ap ?_
   go_wp2_with fail
   go_ret
   exact ⟨rfl, sW.out⟩
theorem sl {w : World} {cv : Value} {c : List Bool} (x : ClmE) (hc : da w cv c) (hc1 : 1 ≤ c.length) (hx : RdCl w x) :
  Calls Tryz.prog 80 #[.agg #[cv], .agg x.cells.toArray] w fun e w' => e = .returned (.bool (cm c x.c)) ∧ Kept (fun _ => False) w w' := by
 obtain ⟨rr, hrr⟩ : ∃ rr, rr = cm c x.c := ⟨_, rfl⟩
 rw [← hrr]
 have tl := BO hrr
 clear hrr
 obtain ⟨W1, hW1, hk1, hb1, hb2⟩ := gX w #[cv] x.cells.toArray dz tCl
 have HC := BO (Rd.kept hc hk1 (fun _ _ h => h))
 have HX := BO (hx.1.kept hk1)
 have sR := BO hW1
 have sW := BO hk1
 have sZ := BO hb1
 have s7 := BO hb2
 have HR := BO (ig x.key W1.drew)
 obtain ⟨_, m1, ca, cc, rfl, _⟩ := hc
 unfold maxLen at m1
 obtain ⟨y, hy⟩ : ∃ y, c[0]? = some y := ⟨c[0]'(by omega), List.getElem?_eq_getElem _⟩
 obtain ⟨cg, cog, rfl⟩ := gJ HC.out hy rfl
 have hg : c.getD 0 false = y := by rw [List.getD_eq_getElem?_getD, hy]; rfl
 have HY := BO (show ∀ w2, Kept (fun _ => False) W1 w2 → w2.cell? ⟨cg, cog, none⟩ = some (.bool y) from fun w2 k => by have := fo (Rd.kept HC.out k (fun _ _ h => h)) hy; simpa using this)
 obtain ⟨N, hN⟩ : ∃ N, c.length = N := ⟨_, rfl⟩
 have hN1 : 0 < N := by omega
 obtain ⟨ia, il, hil, hnc, hml, hcm⟩ : ∃ a c, Value.slice x.ia x.il x.ic = .slice a x.imgs.length c ∧ x.imgs.length ≤ c ∧ x.imgs.length ≤ 9223372036854775807 ∧ c ≤ 9223372036854775807 := hx.1.shape
 have vt := BO (Value.slice.inj hil).2.1
 clear hk1 hW1 hb1 hb2 hx hy hil hc1
 rw [hN] at m1 sZ sR
 rw [hN]
 have HN := BO hN
 clear hN
 cases hr : a9 x.key
 ·have HO := BO (show cm c x.c = false by unfold cm; rw [show x.c.key = x.key from rfl, hr]; rfl)
  rw [hr] at HR
  clear hr hg
  go_enter Tryz.func80, Tryz.ntmps80
  go_upto_region 1 with fail
  rw [← sR.out]
  clear sR
  generalize w.heap.size + 1 = b2 at s7 ⊢
  generalize w.heap.size = b1 at sZ ⊢
  obtain ⟨k0, k1, k2⟩ := fM s7.out
  refine af [(0, false, 2), (1, false, 2), (2, true, 0), (3, false, 999), (4, false, 999), (5, false, 999), (6, false, 999), (7, false, 999), (8, false, 999), (9, false, 999), (10, false, 999), (11, false, 999), (12, false, 999), (13, false, 999)] (by kernel_rfl) (by kernel_rfl) ?_
  iterate 2 (refine ae rfl rfl (fun K hK => ?_); go_simp; refine hK _ ?_; clear hK K)
  refine al rfl ?_
  refine aw rfl (fun K hK => ?_)
  go_simp
  refine HR.out.mono ?_
  rintro e1 w1 ⟨rfl, hk1⟩
  have s8 := BO (sW.out.drew.trans hk1 (fun _ h => h.elim))
  clear hk1 HR k0 k1 k2
  refine hK _ _ ?_
  clear hK K
  refine wpList_nil ?_
  refine And.intro ?_ ?_
  ·go_simp
  iterate 2 (refine ae rfl rfl (fun K hK => ?_); go_simp; refine hK _ ?_; clear hK K)
  iterate 8 (first | (refine am rfl rfl ?_; simp only [Act.put, BP, BQ, BR, BS, BT, BU]) | (refine ak rfl rfl (fun K hK => ?_); go_simp; refine hK _ ?_; clear hK K))
  refine ae rfl rfl (fun K hK => ?_); go_simp; refine hK _ ?_; clear hK K
  refine ap ?_
  go_wp2_with fail
  go_ret
  exact ⟨by rw [tl.out, HO.out]; rfl, s8.out⟩
 rw [hr] at HR
 by_cases ht : x.key.t = y
 ·have HO := BO (show cm c x.c = (if x.mode = 3 ∨ x.mode = 5 then x.imgs.isEmpty else if x.mode = 6 then x.imgs.all (dM c x.key) else false) by unfold cm; rw [hg, show x.c.key = x.key from rfl, hr, ht, decide_eq_true (show y = y from rfl)]; rfl)
  subst ht
  clear hr hg
  have h4 : x.mode = 3 ∨ x.mode = 5 ∨ x.mode = 6 ∨ (¬ x.mode = 3 ∧ ¬ x.mode = 5 ∧ ¬ x.mode = 6) := by omega
  go_enter Tryz.func80, Tryz.ntmps80
  go_upto_region 1 with fail
  rw [← sR.out]
  clear sR
  generalize w.heap.size + 1 = b2 at s7 ⊢
  generalize w.heap.size = b1 at sZ ⊢
  obtain ⟨k0, k1, k2⟩ := fM s7.out
  refine af [(0, false, 2), (1, false, 2), (2, true, 0), (3, false, 999), (4, false, 999), (5, false, 999), (6, false, 999), (7, false, 999), (8, false, 999), (9, false, 999), (10, false, 999), (11, false, 999), (12, false, 999), (13, false, 999)] (by kernel_rfl) (by kernel_rfl) ?_
  iterate 2 (refine ae rfl rfl (fun K hK => ?_); go_simp; refine hK _ ?_; clear hK K)
  refine al rfl ?_
  refine aw rfl (fun K hK => ?_)
  go_simp
  refine HR.out.mono ?_
  rintro e1 w1 ⟨rfl, hk1⟩
  have uI := BO ((Kept.refl (fun _ => False) W1).drew.trans hk1 (fun _ h => h.elim))
  have s8 := BO (sW.out.trans uI.out (fun _ h => h.elim))
  clear hk1 HR k0 k1 k2
  obtain ⟨k0, k1, k2⟩ := fM (aA uI.out s7.out)
  obtain ⟨t0, _⟩ := aM (aA uI.out sZ.out)
  have hy := HY.out _ uI.out
  refine hK _ _ ?_
  clear hK K
  refine wpList_nil ?_
  refine And.intro ?_ ?_
  ·go_simp
  iterate 2 (refine ae rfl rfl (fun K hK => ?_); go_simp; refine hK _ ?_; clear hK K)
  iterate 8 (first | (refine am rfl rfl ?_; simp only [Act.put, BP, BQ, BR, BS, BT, BU]) | (refine ak rfl rfl (fun K hK => ?_); go_simp; refine hK _ ?_; clear hK K))
  refine ae rfl rfl (fun K hK => ?_); go_simp; refine hK _ ?_; clear hK K
  refine ap ?_
  obtain ⟨m2, m6⟩ := aW (aA uI.out s7.out)
  rcases h4 with h | h | h | ⟨h3, h5, h6⟩
  ·rw [h] at m2
   rw [vt.out] at m6
   have HO := BO (show cm c x.c = x.imgs.isEmpty by rw [HO.out, if_pos (.inl h)])
   clear h
   by_cases h0 : x.imgs.length = 0
   ·have he : x.imgs.isEmpty = true := by rw [List.isEmpty_iff]; exact List.length_eq_zero_iff.1 h0
    have HO := BO (show cm c x.c = true by rw [HO.out, he])
    rw [h0] at m6
    clear he h0 hnc hml
    go_wp2_with fail
    go_ret
    exact ⟨by rw [tl.out, HO.out]; rfl, s8.out⟩
   ·have he : x.imgs.isEmpty = false := by cases hx : x.imgs with | nil => rw [hx] at h0; exact absurd rfl h0 | cons _ _ => rfl
    have h1 : ((x.imgs.length : Int) == 0) = false := by simp; intro h2; exact h0 (by rw [h2]; rfl)
    have HO := BO (show cm c x.c = false by rw [HO.out, he])
    generalize x.imgs.length = il0 at *
    clear he h0
    go_wp2_with fail
    go_ret
    exact ⟨by rw [tl.out, HO.out]; rfl, s8.out⟩
  ·rw [h] at m2
   rw [vt.out] at m6
   have HO := BO (show cm c x.c = x.imgs.isEmpty by rw [HO.out, if_pos (.inr h)])
   clear h
   by_cases h0 : x.imgs.length = 0
   ·have he : x.imgs.isEmpty = true := by rw [List.isEmpty_iff]; exact List.length_eq_zero_iff.1 h0
    have HO := BO (show cm c x.c = true by rw [HO.out, he])
    rw [h0] at m6
    clear he h0 hnc hml
    go_wp2_with fail
    go_ret
    exact ⟨by rw [tl.out, HO.out]; rfl, s8.out⟩
   ·have he : x.imgs.isEmpty = false := by cases hx : x.imgs with | nil => rw [hx] at h0; exact absurd rfl h0 | cons _ _ => rfl
    have h1 : ((x.imgs.length : Int) == 0) = false := by simp; intro h2; exact h0 (by rw [h2]; rfl)
    have HO := BO (show cm c x.c = false by rw [HO.out, he])
    generalize x.imgs.length = il0 at *
    clear he h0
    go_wp2_with fail
    go_ret
    exact ⟨by rw [tl.out, HO.out]; rfl, s8.out⟩
  ·rw [h] at m2
   have HO := BO (show cm c x.c = x.imgs.all (dM c x.key) by rw [HO.out, if_neg (by omega), if_pos h])
   clear h
   have tp := BO (rP (F := 123) (caps := #[.pointer (some ⟨b1, 0, none⟩), .pointer (some ⟨b2, 0, none⟩)]) (dM c x.key) (HX.out.kept uI.out) (fun r _ => onRow1F (x := x) (aA uI.out sZ.out) (aA uI.out s7.out) (by have := Rd.kept HC.out uI.out (fun _ _ h => h); rw [HN.out] at this; show Rd _ 1 _ c.length _; rw [HN.out]; exact this) r))
   go_wp2_with (go_at_call 118; refine tp.out.mono ?_; rintro e3 w3 ⟨rfl, hk3⟩; have tn := BO (s8.out.trans hk3 (fun _ h => h.elim)); clear hk3 tp m2 m6 k0 k1 k2 t0 hy)
   go_ret
   exact ⟨by rw [tl.out, HO.out]; rfl, tn.out⟩
  ·have HO := BO (show cm c x.c = false by rw [HO.out, if_neg (by omega), if_neg h6])
   go_wp2_with fail
   go_ret
   exact ⟨by rw [tl.out, HO.out]; rfl, s8.out⟩
 ·have HO := BO (show cm c x.c = false by unfold cm; rw [hg, show x.c.key = x.key from rfl, hr, decide_eq_false ht]; rfl)
  obtain rfl : y = !x.key.t := by cases y <;> cases h : x.key.t <;> simp_all
  clear hr hg ht
  go_enter Tryz.func80, Tryz.ntmps80
  go_upto_region 1 with fail
  rw [← sR.out]
  clear sR
  generalize w.heap.size + 1 = b2 at s7 ⊢
  generalize w.heap.size = b1 at sZ ⊢
  obtain ⟨k0, k1, k2⟩ := fM s7.out
  refine af [(0, false, 2), (1, false, 2), (2, true, 0), (3, false, 999), (4, false, 999), (5, false, 999), (6, false, 999), (7, false, 999), (8, false, 999), (9, false, 999), (10, false, 999), (11, false, 999), (12, false, 999), (13, false, 999)] (by kernel_rfl) (by kernel_rfl) ?_
  iterate 2 (refine ae rfl rfl (fun K hK => ?_); go_simp; refine hK _ ?_; clear hK K)
  refine al rfl ?_
  refine aw rfl (fun K hK => ?_)
  go_simp
  refine HR.out.mono ?_
  rintro e1 w1 ⟨rfl, hk1⟩
  have uI := BO ((Kept.refl (fun _ => False) W1).drew.trans hk1 (fun _ h => h.elim))
  have s8 := BO (sW.out.trans uI.out (fun _ h => h.elim))
  clear hk1 HR k0 k1 k2
  obtain ⟨k0, k1, k2⟩ := fM (aA uI.out s7.out)
  obtain ⟨t0, _⟩ := aM (aA uI.out sZ.out)
  have hy := HY.out _ uI.out
  refine hK _ _ ?_
  clear hK K
  refine wpList_nil ?_
  refine And.intro ?_ ?_
  ·go_simp
  iterate 2 (refine ae rfl rfl (fun K hK => ?_); go_simp; refine hK _ ?_; clear hK K)
  iterate 8 (first | (refine am rfl rfl ?_; simp only [Act.put, BP, BQ, BR, BS, BT, BU]) | (refine ak rfl rfl (fun K hK => ?_); go_simp; refine hK _ ?_; clear hK K))
  refine ae rfl rfl (fun K hK => ?_); go_simp; refine hK _ ?_; clear hK K
  refine ap ?_
  go_wp2_with fail
  go_ret
  exact ⟨by rw [tl.out, HO.out]; rfl, s8.out⟩
theorem nt {ts : List (List Bool)} {x : Clm} (h : ¬ (0 ≤ x.table ∧ x.table < (ts.length : Int))) : bK ts x = false := by
 unfold bK
 by_cases h1 : 0 ≤ x.table
 ·rw [decide_eq_false (fun h2 => h ⟨h1, h2⟩)]; simp
 ·rw [decide_eq_false h1]; simp
theorem pg {ts : List (List Bool)} {x : Clm} {k : Nat} {c : List Bool} (hk : x.table = (k : Int)) (hc : ts[k]? = some c) : bK ts x = (fA c && dC c x) := by
 have hlt := (List.getElem?_eq_some_iff.1 hc).1
 unfold bK
 rw [hk, Int.toNat_natCast, List.getD_eq_getElem?_getD, hc, decide_eq_true (by omega), decide_eq_true (by omega)]
 simp
theorem f7 {w : World} {b : Nat} {x : ClmE} {t : TypeId} {fr : Nat × Nat} (h : w.heap[b]? = some (.cells x.cells.toArray t fr)) : w.cell? ⟨b, 0, none⟩ = some (.int .i64 x.kind) ∧ w.cell? ⟨b, 1, none⟩ = some (.int .i64 x.table) ∧ w.cell? ⟨b, 2, none⟩ = some (.int .i64 x.mode) := ⟨(aY h).1, (aY h).2.1, (aW h).1⟩
theorem chk_C {B w : World} {D : PH} {l : List HP} {tv : Value} {ts : List (List Bool)} (ht : TblsAt D tv ts) (x : ClmE) (hx : ClOk D x) (hnd : x.pr.p.nodes.length ≤ 1000000) (hs : Sat B D w l) :
  Calls Tryz.prog 40 #[tv, .agg x.cells.toArray] w fun e w' => e = .returned (.int .i64 (if bK ts x.c then 0 else 111)) ∧ Sat B D w' l := by
 obtain ⟨rr, hrr⟩ : ∃ rr : Int, rr = (if bK ts x.c then 0 else 111) := ⟨_, rfl⟩
 rw [← hrr]
 have tl := BO hrr
 clear hrr
 obtain ⟨us, hl, hone, hrd, hth⟩ := ht
 obtain ⟨ta, tc, rfl⟩ := hrd.shape
 obtain ⟨W1, hW1, hs1⟩ := Sat.hide (hs.alloc x.cells.toArray tCl)
 have sR := BO hW1
 have sS := BO hs1
 have hml := hrd.2.1
 unfold maxLen at hml
 have s5 := BO hrd
 have zS := BO hth
 have HX := BO hx
 have yT := BO hnd
 have yU := BO hl
 obtain ⟨N, hN⟩ : ∃ N, ts.length = N := ⟨_, rfl⟩
 have HN := BO hN
 rw [hN] at hml s5
 rw [hN]
 clear hs hs1 hW1 hth hrd hx hnd hl hone
 by_cases hin : 0 ≤ x.table ∧ x.table < (N : Int)
 rotate_left
 ·have HO := BO (show (if bK ts x.c then (0 : Int) else 111) = 111 by rw [nt (by rw [hN]; exact hin)]; rfl)
  clear hN
  by_cases h0 : x.table < 0
  ·go_enter Tryz.func40, Tryz.ntmps40
   go_upto_region 1 with fail
   rw [← sR.out]
   clear sR
   generalize w.heap.size = bx at sS ⊢
   obtain ⟨x0, x1, x2⟩ := f7 (sS.out.blk 0 rfl)
   go_wp2_with fail
   go_ret
   exact ⟨by rw [tl.out, HO.out]; rfl, sS.out.drop⟩
  ·have h1 : x.table ≥ (N : Int) := by omega
   go_enter Tryz.func40, Tryz.ntmps40
   go_upto_region 1 with fail
   rw [← sR.out]
   clear sR
   generalize w.heap.size = bx at sS ⊢
   obtain ⟨x0, x1, x2⟩ := f7 (sS.out.blk 0 rfl)
   go_wp2_with fail
   go_ret
   exact ⟨by rw [tl.out, HO.out]; rfl, sS.out.drop⟩
 obtain ⟨k, hk⟩ : ∃ k : Nat, x.table = (k : Int) := ⟨x.table.toNat, by omega⟩
 have hkN : k < N := by omega
 obtain ⟨c, hc⟩ : ∃ c, ts[k]? = some c := ⟨ts[k]'(by omega), List.getElem?_eq_getElem _⟩
 obtain ⟨u, hu⟩ : ∃ u, us[k]? = some u := ⟨us[k]'(by have := yU.out; omega), List.getElem?_eq_getElem _⟩
 have xa := BO (pg (x := x.c) hk hc)
 have hcr := zS.out k u c hu hc
 have hrr := s5.out.rd sS.out
 obtain ⟨g, og, rfl⟩ : ∃ g og, ta = some ⟨g, og, none⟩ := by
  rcases hrr.2.2 with ⟨_, _, hv, _, _, _, hcase⟩
  cases hv
  rcases hcase with h0 | ⟨g, o, hg, _⟩
  ·omega
  ·exact ⟨g, o, hg⟩
 have xb := BO (show ∀ w2, Sat B D w2 [] → w2.cell? ⟨g, og + k, none⟩ = some u from fun w2 s2 => by
  rcases (s5.out.rd s2).2.2 with ⟨_, _, hv, _, _, _, hcase⟩
  cases hv
  rcases hcase with h0 | ⟨g', o', hg, hcl⟩
  ·omega
  ·cases hg; exact hcl k u hu)
 have yz := BO (show ∀ w2 l2, Sat B D w2 l2 → Sat B D w2 [] from fun w2 l2 s2 => by
  induction l2 with
  | nil => exact s2
  | cons a l2 ih => exact ih s2.drop)
 have xd := BO hcr
 obtain ⟨_, _, ua, uc, rfl, _⟩ := hcr
 have hb1 : (k : Int) < (N : Int) := by omega
 have hb2 : ¬ (k : Int) ≥ (N : Int) := by omega
 have hb3 : ¬ (k : Int) < 0 := by omega
 have HK := BO hk
 clear hc hu hrr hN hin
 have t9 := BO (i6 (xd.out.rd sS.out))
 cases hm : fA c
 ·rw [show chk c = 1 by unfold chk; rw [hm]; rfl] at t9
  have HO := BO (show (if bK ts x.c then (0 : Int) else 111) = 111 by rw [xa.out, hm]; rfl)
  clear hm
  go_enter Tryz.func40, Tryz.ntmps40
  go_upto_region 1 with fail
  rw [← sR.out]
  clear sR
  generalize w.heap.size = bx at sS ⊢
  obtain ⟨x0, x1, x2⟩ := f7 (sS.out.blk 0 rfl)
  rw [HK.out] at x1
  have hcell := xb.out _ (yz.out _ _ sS.out)
  clear hk
  go_wp2_with (go_at_call 78; refine t9.out.mono ?_; rintro e1 w1 ⟨rfl, hk1⟩; have sX := BO (sS.out.kept hk1); clear hk1 t9 sS x0 x1 x2 hcell)
  go_ret
  exact ⟨by rw [tl.out, HO.out]; rfl, sX.out.drop⟩
 rw [show chk c = 0 by unfold chk; rw [hm]; rfl] at t9
 have vD := BO (show bK ts x.c = dC c x.c by rw [xa.out, hm]; rfl)
 have hc1 : 1 ≤ c.length := by unfold fA at hm; simp at hm; exact hm.1
 have HM := BO hm
 clear hm
 go_enter Tryz.func40, Tryz.ntmps40
 go_upto_region 1 with fail
 rw [← sR.out]
 clear sR
 generalize w.heap.size = bx at sS ⊢
 obtain ⟨x0, x1, x2⟩ := f7 (sS.out.blk 0 rfl)
 rw [HK.out] at x1
 have hcell := xb.out _ (yz.out _ _ sS.out)
 clear hk
 go_upto_region 3 with (go_at_call 78; refine t9.out.mono ?_; rintro e1 w1 ⟨rfl, hk1⟩; have sX := BO (sS.out.kept hk1); clear hk1 t9 sS x0 x1 x2 hcell)
 obtain ⟨x0, x1, x2⟩ := f7 (sX.out.blk 0 rfl)
 rw [HK.out] at x1
 have hcell := xb.out _ (yz.out _ _ sX.out)
 have sU := BO (sX.out.alloc #[.slice ua c.length uc] dz)
 go_upto_region 4 with fail
 obtain ⟨W3, hW3, hs3⟩ := Sat.hide sU.out
 rw [← hW3]
 clear hW3 sU sX x0 x1 x2 hcell
 generalize w1.heap.size = bt at hs3 ⊢
 obtain ⟨t0, tf⟩ := aM (hs3.blk 0 rfl)
 obtain ⟨x0, x1, x2⟩ := f7 (hs3.blk 1 rfl)
 have HL := BO (ay (ai (hs3.blk 1 rfl)))
 have sU := BO hs3
 clear hs3
 have h4 : x.kind = 1 ∨ x.kind = 2 ∨ x.kind = 3 ∨ (¬ x.kind = 1 ∧ ¬ x.kind = 2 ∧ ¬ x.kind = 3) := by omega
 rcases h4 with h | h | h | ⟨n1, n2, n3⟩
 ·rw [h] at x0
  have vn := BO (show dC c x.c = (br x.mode && !decide (x.mode = 0)) by unfold dC; rw [if_pos (show x.c.kind = 1 from h)]; rfl)
  clear h
  have HR := BO (m7 x.mode)
  cases hr : br x.mode
  ·have HO := BO (show (if bK ts x.c then (0 : Int) else 111) = 111 by rw [vD.out, vn.out, hr]; rfl)
   rw [hr] at HR
   clear hr
   go_wp2_with (go_at_call 79; refine (HR.out _).mono ?_; rintro e4 w4 ⟨rfl, rfl⟩; clear HR)
   go_ret
   exact ⟨by rw [tl.out, HO.out]; rfl, sU.out.drop.drop⟩
  ·rw [hr] at HR
   by_cases hz : x.mode = 0
   ·have HO := BO (show (if bK ts x.c then (0 : Int) else 111) = 111 by rw [vD.out, vn.out, hr, hz]; rfl)
    rw [hz] at x2 HR
    clear hr hz
    go_wp2_with (go_at_call 79; refine (HR.out _).mono ?_; rintro e4 w4 ⟨rfl, rfl⟩; clear HR)
    go_ret
    exact ⟨by rw [tl.out, HO.out]; rfl, sU.out.drop.drop⟩
   ·have HO := BO (show (if bK ts x.c then (0 : Int) else 111) = 0 by rw [vD.out, vn.out, hr, decide_eq_false hz]; rfl)
    have hz1 : (x.mode != 0) = true := by simp [hz]
    clear hr hz
    go_wp2_with (go_at_call 79; refine (HR.out _).mono ?_; rintro e4 w4 ⟨rfl, rfl⟩; clear HR)
    go_ret
    exact ⟨by rw [tl.out, HO.out]; rfl, sU.out.drop.drop⟩
 ·rw [h] at x0
  have vn := BO (show dC c x.c = cm c x.c by unfold dC; rw [if_neg (show ¬ x.c.kind = 1 by show ¬ x.kind = 1; omega), if_pos (show x.c.kind = 2 from h)])
  clear h
  have vz := BO (sl x (xd.out.rd sU.out) hc1 (HX.out.rd sU.out))
  cases hr : cm c x.c
  ·have HO := BO (show (if bK ts x.c then (0 : Int) else 111) = 111 by rw [vD.out, vn.out, hr]; rfl)
   rw [hr] at vz
   clear hr
   go_wp2_with (first | (refine ag rfl _ _ rfl _ _ rfl _ HL.out ?_) | (go_at_call 80; refine vz.out.mono ?_; rintro e4 w4 ⟨rfl, hk4⟩; have sY := BO (sU.out.kept hk4); clear hk4 vz sU HL x0 x1 x2 t0 tf))
   go_ret
   exact ⟨by rw [tl.out, HO.out]; rfl, sY.out.drop.drop⟩
  ·have HO := BO (show (if bK ts x.c then (0 : Int) else 111) = 0 by rw [vD.out, vn.out, hr]; rfl)
   rw [hr] at vz
   clear hr
   go_wp2_with (first | (refine ag rfl _ _ rfl _ _ rfl _ HL.out ?_) | (go_at_call 80; refine vz.out.mono ?_; rintro e4 w4 ⟨rfl, hk4⟩; have sY := BO (sU.out.kept hk4); clear hk4 vz sU HL x0 x1 x2 t0 tf))
   go_ret
   exact ⟨by rw [tl.out, HO.out]; rfl, sY.out.drop.drop⟩
 ·rw [h] at x0
  have vn := BO (show dC c x.c = (decide (x.mode = 3) && cA c x.pr.p) by unfold dC; rw [if_neg (show ¬ x.c.kind = 1 by show ¬ x.kind = 1; omega), if_neg (show ¬ x.c.kind = 2 by show ¬ x.kind = 2; omega), if_pos (show x.c.kind = 3 from h)]; rfl)
  clear h
  by_cases hz : x.mode = 3
  ·rw [hz] at x2
   have xH := BO (nO x.pr xd.out HM.out HX.out.2 yT.out sU.out)
   have vC := BO (bu (eF (sU.out.blk 1 rfl)))
   cases hr : cA c x.pr.p
   ·have HO := BO (show (if bK ts x.c then (0 : Int) else 111) = 111 by rw [vD.out, vn.out, hr]; simp)
    rw [hr] at xH
    clear hr hz
    go_wp2_with (first | (refine bG rfl _ _ rfl _ _ rfl _ vC.out ?_) | (go_at_call 81; refine xH.out.mono ?_; rintro e4 w4 ⟨rfl, hs4⟩; have sY := BO hs4; clear hs4 xH sU HL vC x0 x1 x2 t0 tf))
    go_ret
    exact ⟨by rw [tl.out, HO.out]; rfl, sY.out.drop.drop⟩
   ·have HO := BO (show (if bK ts x.c then (0 : Int) else 111) = 0 by rw [vD.out, vn.out, hr, hz]; rfl)
    rw [hr] at xH
    clear hr hz
    go_wp2_with (first | (refine bG rfl _ _ rfl _ _ rfl _ vC.out ?_) | (go_at_call 81; refine xH.out.mono ?_; rintro e4 w4 ⟨rfl, hs4⟩; have sY := BO hs4; clear hs4 xH sU HL vC x0 x1 x2 t0 tf))
    go_ret
    exact ⟨by rw [tl.out, HO.out]; rfl, sY.out.drop.drop⟩
  ·have HO := BO (show (if bK ts x.c then (0 : Int) else 111) = 111 by rw [vD.out, vn.out, decide_eq_false hz]; rfl)
   go_wp2_with fail
   go_ret
   exact ⟨by rw [tl.out, HO.out]; rfl, sU.out.drop.drop⟩
 ·have HO := BO (show (if bK ts x.c then (0 : Int) else 111) = 111 by rw [vD.out]; unfold dC; rw [if_neg (show ¬ x.c.kind = 1 from n1), if_neg (show ¬ x.c.kind = 2 from n2), if_neg (show ¬ x.c.kind = 3 from n3)]; rfl)
  go_wp2_with fail
  go_ret
  exact ⟨by rw [tl.out, HO.out]; rfl, sU.out.drop.drop⟩
end Go.Proofs.YtgljdkjepdknnaaGreatDoor
