/- Joined texts: The tree: contract of Put. The tree: contract of Put. -/
import Derived.Test.YtcbklkcpjldcjaaJ8
/- The tree: contract of Put. -/
namespace Go.Proofs.Ytcbklkcpjldcjaa
open Go.ChangeShapes Go.WideShapes Go.ChangeAt Go.RowKit
set_option maxRecDepth 100000
set_option linter.unusedSimpArgs false

theorem slot_k (T : TM) (b : Bool) : (T.slot b).2.k = T.k := by unfold TM.slot; split <;> rfl
theorem TM.Split.keep {T T' : TM} {i c : Nat} (h : T.Split i c T') : T'.k = T.k := by
  obtain ⟨mi, kid, mk, sep, _, _, _, _, _, rfl⟩ := h
  exact slot_k _ _
theorem TM.PutR.keep {k : Val} {v : VT} {T T' : TM} {i : Nat} {fr : Bool} (h : T.PutR k v i T' fr) : T'.k = T.k := by
  induction h with
  | found => rfl
  | fresh => rfl
  | inner _ _ _ _ _ _ _ ih => exact ih
  | grown _ _ _ _ _ _ _ hs ih => rw [hs.keep, ih]

/-- may a node be made? -/
def TM.maySlot (T : TM) : Prop := (∀ i, T.free.getLast? = some i → i < T.nodes.length) ∧ T.nodes.length ≤ 1000000 ∧ T.free.length ≤ 1000000
def TM.more (T : TM) (b : Bool) : TM := if b then { T with k := { T.k with many := T.k.many + 1 } } else T
/-- its numbers are not so great -/
def Num.fit (k : Num) : Prop := -1000000 ≤ k.many ∧ k.many ≤ 1000000 ∧ -1000000 ≤ k.depth ∧ k.depth ≤ 1000000
/-- a first node -/
def TM.first (T : TM) : TM := { (T.slot true).2 with k := { T.k with root := ((T.slot true).1 : Int), depth := 1 } }
/-- a node above the first one -/
def TM.top (T : TM) (r : Nat) : TM := { (T.slot false).2 with nodes := (T.slot false).2.nodes.set (T.slot false).1 { freshM false with kids := [r] } }

/-- tail of Put: what is there behind put, and the answer -/
theorem more_k (T : TM) (fr : Bool) : (T.more fr).nodes = T.nodes ∧ (T.more fr).free = T.free := by cases fr <;> exact ⟨rfl, rfl⟩

theorem i64w (x : Int) (h1 : -9223372036854775808 ≤ x) (h2 : x ≤ 9223372036854775807) : IntKind.i64.wrap x = x := IntWalk.i64_in _ (by omega)

theorem Put_bad {w : World} {p : Value} {k : Val} {v : VT} (hr : valRight k = false) (hp : p = .pointer none ∨ ∃ t, p = .pointer (some ⟨t, 0, none⟩)) :
    Calls Try.prog 39 #[p, k.v, v.v] w fun e w' => e = .returned (.bool false) ∧ Kept (fun _ => False) w w' := by
  have hk0 : Kept (fun _ => False) w ((w.alloc (.cells #[.bool k.t, .int .i64 k.n, .string k.s] tV)).alloc (.cells #[.bool v.kept, .int .i64 v.num, .slice v.ro v.rn v.rc] tW)) := ((Kept.refl _ _).alloc _).alloc _
  have HK0 := Lib.hid hk0
  have HR := Lib.hid hr
  have hb : ((w.alloc (.cells #[.bool k.t, .int .i64 k.n, .string k.s] tV)).alloc (.cells #[.bool v.kept, .int .i64 v.num, .slice v.ro v.rn v.rc] tW)).heap[w.heap.size]? = some (.cells #[.bool k.t, .int .i64 k.n, .string k.s] tV (0, 0)) := heap_alloc_lt (heap_alloc_self w _)
  have HB := Lib.hid hb
  clear hk0 hr hb
  dsimp only [Val.v, SlotT.v]
  rcases hp with rfl | ⟨t, rfl⟩
  all_goals
    go_enter Try.func39, Try.ntmps39
    go_upto_region 1 with (fail)
    obtain ⟨W, hW⟩ : ∃ W, W = (w.alloc (.cells #[.bool k.t, .int .i64 k.n, .string k.s] tV)).alloc (.cells #[.bool v.kept, .int .i64 v.num, .slice v.ro v.rn v.rc] tW) := ⟨_, rfl⟩
    rw [← hW] at HK0 HB ⊢
    generalize w.heap.size = bk at HB ⊢
    obtain ⟨x0, x1, x2, xf⟩ := cells3 HB.out
    clear hW
    go_wp2_with ((go_at_call 52; refine (right_ok k _).mono ?_; rw [HR.out]; rintro e1 w1 ⟨rfl, hk1⟩; have HK1 := Lib.hid hk1; clear hk1 x0 x1 x2 xf))
    go_ret
    first
    | exact ⟨rfl, HK0.out⟩
    | exact ⟨rfl, HK0.out.trans HK1.out (fun _ h => h.elim)⟩

set_option maxHeartbeats 2000000 in
theorem Put_new {B w : World} {D : PH} {t : Nat} {T T1 : TM} {l : List HP} {k : Val} {v : VT} {fr : Bool} {mk : NodeM} (hr : valRight k = true) (hroot : T.k.root < 0) (hsl : T.maySlot) (hfit : T.k.fit)
    (hp : T.first.PutR k v (T.slot true).1 T1 fr) (hk : T1.nodes[(T.slot true).1]? = some mk) (hz : mk.size ≤ 4) (h : TreeA B D w t T l) :
    Calls Try.prog 39 #[.pointer (some ⟨t, 0, none⟩), k.v, v.v] w fun e w' => e = .returned (.bool fr) ∧ TreeA B D w' t (T1.more fr) l := by
  obtain ⟨nv, fv, ns, hns, hs⟩ := h
  have hs1 := (hs.alloc #[.bool k.t, .int .i64 k.n, .string k.s] tV).alloc #[.bool v.kept, .int .i64 v.num, .slice v.ro v.rn v.rc] tW
  have hkeep := hp.keep
  obtain ⟨r, T0, hrT⟩ : ∃ r T0, T.slot true = (r, T0) := ⟨_, _, rfl⟩
  have hSL : ∀ (w : World) (l : List HP), TreeA B D w t T l → _ := fun w l => slot_ok true hsl.1 hsl.2.1 hsl.2.2
  have hT0 : T.first = { T0 with k := { T.k with root := (r : Int), depth := 1 } } := by unfold TM.first; rw [hrT]
  have hT0k : T0.k = T.k := by have := slot_k T true; rw [hrT] at this; exact this
  rw [hT0] at hp hkeep
  rw [hrT] at hp hk hSL
  have hk1 : T1.k = { T.k with root := (r : Int), depth := 1 } := hkeep
  obtain ⟨f1, f2, f3, f4⟩ := hfit
  have HS1 := Lib.hid hs1
  have HR := Lib.hid hr
  have HSL := Lib.hid hSL
  have HP := Lib.hid (put_ok (B := B) (D := D) (t := t) hp)
  have HNS := Lib.hid hns
  have HK := Lib.hid hk
  have HK1 := Lib.hid hk1
  have HT0K := Lib.hid hT0k
  have hw : IntKind.i64.wrap (T.k.many + 1) = T.k.many + 1 := i64w _ (by omega) (by omega)
  have HW := Lib.hid hw
  clear hs hs1 hr hSL hp hns hk hk1 hkeep hT0 hrT hsl hw hT0k
  dsimp only [Val.v, SlotT.v]
  go_enter Try.func39, Try.ntmps39
  go_upto_region 1 with (fail)
  obtain ⟨W, hW, hs2⟩ := HS1.out.hide
  rw [← hW]
  clear HS1 hW
  simp only [World.alloc, Array.size_push] at hs2 ⊢
  generalize hbk : w.heap.size = bk at hs2 ⊢
  generalize hbv_ : bk + 1 = bv at hs2 ⊢
  clear hbk hbv_
  obtain ⟨x0, x1, x2, xf⟩ := cells3 (Sat.blk hs2 5 rfl)
  obtain ⟨v0, v1, v2, vf⟩ := cells3 (Sat.blk hs2 4 rfl)
  have HS2 := Lib.hid hs2
  clear hs2
  go_upto_region 3 with ((go_at_call 52; refine (right_ok k _).mono ?_; rw [HR.out]; rintro e1 w1 ⟨rfl, hk1⟩; have HS3 := Lib.hid (HS2.out.kept hk1); clear hk1 HS2 x0 x1 x2 xf v0 v1 v2 vf))
  obtain ⟨t0, t1, t2, t3, t4, tf⟩ := HS3.out.tcells
  have HA3 := Lib.hid (HSL.out _ _ ⟨_, _, _, HNS.out, HS3.out⟩)
  clear HS3 HSL
  go_upto_region 6 with ((go_at_call 55; refine HA3.out.mono ?_; clear t0 t1 t2 t3 t4 tf; rintro e2 w2 ⟨rfl, nv4, fv4, ns4, hns4, hs4⟩; obtain ⟨t0, t1, t2, t3, t4, tf⟩ := hs4.tcells; have HS4 := Lib.hid hs4; have HNS4 := Lib.hid hns4; clear hs4 hns4 HA3))
  obtain ⟨W5, hW5, hs5⟩ := ((HS4.out.set_root r).set_depth 1).hide
  rw [← hW5]
  clear hW5 HS4 t0 t1 t2 t3 t4 tf
  rw [HT0K.out] at hs5
  obtain ⟨t0, t1, t2, t3, t4, tf⟩ := hs5.tcells
  obtain ⟨x0, x1, x2, xf⟩ := cells3 (Sat.blk hs5 5 rfl)
  obtain ⟨v0, v1, v2, vf⟩ := cells3 (Sat.blk hs5 4 rfl)
  have HP5 := Lib.hid (HP.out W5.drew _ ⟨_, _, _, HNS4.out, hs5.drew⟩)
  clear hs5 HP
  refine wp_region_canon [(0, false, 7), (1, false, 7), (2, false, 7), (3, false, 7), (4, false, 7), (5, false, 7), (6, false, 7), (7, true, 0), (8, false, 999)] (by kernel_rfl) (by kernel_rfl) ?_
  iterate 7 (refine wpCan_read rfl rfl (fun K hK => ?_); go_simp; refine hK _ ?_; clear hK K)
  refine wpCan_eff rfl ?_
  refine wpList_do rfl (fun K hK => ?_)
  go_simp
  refine HP5.out.mono ?_
  clear t0 t1 t2 t3 t4 tf x0 x1 x2 xf v0 v1 v2 vf
  rintro e6 w6 ⟨rfl, ha6⟩
  have HSZ := Lib.hid (size_ok HK.out ha6)
  obtain ⟨nv6, fv6, ns6, hns6, hs6⟩ := ha6
  rw [HK1.out] at hs6
  obtain ⟨t0, t1, t2, t3, t4, tf⟩ := hs6.tcells
  have HS6 := Lib.hid hs6
  have HNS6 := Lib.hid hns6
  clear hs6 hns6 HP5
  refine hK _ _ ?_
  clear hK K
  refine wpList_nil ?_
  refine And.intro ?_ ?_
  · go_simp
  iterate 1 (refine wpCan_read rfl rfl (fun K hK => ?_); go_simp; refine hK _ ?_; clear hK K)
  refine wpCan_nil ?_
  have hz' : ¬ ((mk.size : Int) > 4) := by omega
  go_upto_region 13 with ((go_at_call 57; refine HSZ.out.mono ?_; rintro e7 w7 ⟨rfl, rfl⟩))
  have hw := HW.out
  cases fr
  · go_wp2_with (fail)
    go_ret
    exact ⟨rfl, _, _, _, HNS6.out, by show TreeS _ _ _ _ _ _ _ T1.free T1.k _; rw [HK1.out]; exact HS6.out.drop.drop⟩
  · go_wp2_with (fail)
    go_ret
    exact ⟨rfl, _, _, _, HNS6.out, by show TreeS _ _ _ _ _ _ _ T1.free { T1.k with many := T1.k.many + 1 } _; rw [HK1.out]; exact (HS6.out.set_many _).drop.drop⟩
end Go.Proofs.Ytcbklkcpjldcjaa

/- The tree: contract of Put. -/
namespace Go.Proofs.Ytcbklkcpjldcjaa
open Go.ChangeShapes Go.WideShapes Go.ChangeAt Go.RowKit
set_option maxRecDepth 100000
set_option linter.unusedSimpArgs false

set_option maxHeartbeats 2000000 in
theorem Put_small {B w : World} {D : PH} {t r : Nat} {T T1 : TM} {l : List HP} {k : Val} {v : VT} {fr : Bool} {mk : NodeM} (hr : valRight k = true) (hroot : T.k.root = (r : Int)) (hfit : T.k.fit)
    (hp : T.PutR k v r T1 fr) (hk : T1.nodes[r]? = some mk) (hz : mk.size ≤ 4) (h : TreeA B D w t T l) :
    Calls Try.prog 39 #[.pointer (some ⟨t, 0, none⟩), k.v, v.v] w fun e w' => e = .returned (.bool fr) ∧ TreeA B D w' t (T1.more fr) l := by
  obtain ⟨nv, fv, ns, hns, hs⟩ := h
  have hs1 := (hs.alloc #[.bool k.t, .int .i64 k.n, .string k.s] tV).alloc #[.bool v.kept, .int .i64 v.num, .slice v.ro v.rn v.rc] tW
  have hkeep := hp.keep
  obtain ⟨f1, f2, f3, f4⟩ := hfit
  have HS1 := Lib.hid hs1
  have HR := Lib.hid hr
  have HP := Lib.hid (put_ok (B := B) (D := D) (t := t) hp)
  have HNS := Lib.hid hns
  have HK := Lib.hid hk
  have HK1 := Lib.hid hkeep
  have HRT := Lib.hid hroot
  have hw : IntKind.i64.wrap (T.k.many + 1) = T.k.many + 1 := i64w _ (by omega) (by omega)
  have HW := Lib.hid hw
  clear hs hs1 hr hp hns hk hkeep hw hroot
  dsimp only [Val.v, SlotT.v]
  go_enter Try.func39, Try.ntmps39
  go_upto_region 1 with (fail)
  obtain ⟨W, hW, hs2⟩ := HS1.out.hide
  rw [← hW]
  clear HS1 hW
  simp only [World.alloc, Array.size_push] at hs2 ⊢
  generalize hbk : w.heap.size = bk at hs2 ⊢
  generalize hbv_ : bk + 1 = bv at hs2 ⊢
  clear hbk hbv_
  obtain ⟨x0, x1, x2, xf⟩ := cells3 (Sat.blk hs2 5 rfl)
  obtain ⟨v0, v1, v2, vf⟩ := cells3 (Sat.blk hs2 4 rfl)
  have HS2 := Lib.hid hs2
  clear hs2
  go_upto_region 3 with ((go_at_call 52; refine (right_ok k _).mono ?_; rw [HR.out]; rintro e1 w1 ⟨rfl, hk1⟩; have HS3 := Lib.hid (HS2.out.kept hk1); clear hk1 HS2 x0 x1 x2 xf v0 v1 v2 vf))
  obtain ⟨t0, t1, t2, t3, t4, tf⟩ := HS3.out.tcells
  rw [HRT.out] at t2
  have hr0 : ¬ ((r : Int) < 0) := by omega
  obtain ⟨x0, x1, x2, xf⟩ := cells3 (Sat.blk HS3.out 5 rfl)
  obtain ⟨v0, v1, v2, vf⟩ := cells3 (Sat.blk HS3.out 4 rfl)
  have HP5 := Lib.hid (HP.out w1.drew _ ⟨_, _, _, HNS.out, HS3.out.drew⟩)
  clear HS3 HP
  go_upto_region 6 with (fail)
  refine wp_region_canon [(0, false, 7), (1, false, 7), (2, false, 7), (3, false, 7), (4, false, 7), (5, false, 7), (6, false, 7), (7, true, 0), (8, false, 999)] (by kernel_rfl) (by kernel_rfl) ?_
  iterate 7 (refine wpCan_read rfl rfl (fun K hK => ?_); go_simp; refine hK _ ?_; clear hK K)
  refine wpCan_eff rfl ?_
  refine wpList_do rfl (fun K hK => ?_)
  go_simp
  refine HP5.out.mono ?_
  clear t0 t1 t2 t3 t4 tf x0 x1 x2 xf v0 v1 v2 vf hr0
  rintro e6 w6 ⟨rfl, ha6⟩
  have HSZ := Lib.hid (size_ok HK.out ha6)
  obtain ⟨nv6, fv6, ns6, hns6, hs6⟩ := ha6
  rw [HK1.out] at hs6
  obtain ⟨t0, t1, t2, t3, t4, tf⟩ := hs6.tcells
  rw [HRT.out] at t2
  have HS6 := Lib.hid hs6
  have HNS6 := Lib.hid hns6
  clear hs6 hns6 HP5
  refine hK _ _ ?_
  clear hK K
  refine wpList_nil ?_
  refine And.intro ?_ ?_
  · go_simp
  iterate 1 (refine wpCan_read rfl rfl (fun K hK => ?_); go_simp; refine hK _ ?_; clear hK K)
  refine wpCan_nil ?_
  have hz' : ¬ ((mk.size : Int) > 4) := by omega
  go_upto_region 13 with ((go_at_call 57; refine HSZ.out.mono ?_; rintro e7 w7 ⟨rfl, rfl⟩))
  have hw := HW.out
  cases fr
  · go_wp2_with (fail)
    go_ret
    exact ⟨rfl, _, _, _, HNS6.out, by show TreeS _ _ _ _ _ _ _ T1.free T1.k _; rw [HK1.out]; exact HS6.out.drop.drop⟩
  · go_wp2_with (fail)
    go_ret
    exact ⟨rfl, _, _, _, HNS6.out, by show TreeS _ _ _ _ _ _ _ T1.free { T1.k with many := T1.k.many + 1 } _; rw [HK1.out]; exact (HS6.out.set_many _).drop.drop⟩

/-- a node above the first one is split from it -/
def TM.high (T : TM) (top : Nat) : TM := { T with k := { root := (top : Int), many := T.k.many, depth := T.k.depth + 1 } }

set_option maxHeartbeats 3000000 in
theorem Put_grown {B w : World} {D : PH} {t r : Nat} {T T1 T3 : TM} {l : List HP} {k : Val} {v : VT} {fr : Bool} {mk : NodeM} (hr : valRight k = true) (hroot : T.k.root = (r : Int)) (hfit : T.k.fit)
    (hp : T.PutR k v r T1 fr) (hk : T1.nodes[r]? = some mk) (hz : 4 < mk.size) (hsl : T1.maySlot) (hsp : (T1.top r).Split (T1.slot false).1 0 T3) (h : TreeA B D w t T l) :
    Calls Try.prog 39 #[.pointer (some ⟨t, 0, none⟩), k.v, v.v] w fun e w' => e = .returned (.bool fr) ∧ TreeA B D w' t ((T3.high (T1.slot false).1).more fr) l := by
  obtain ⟨nv, fv, ns, hns, hs⟩ := h
  have hs1 := (hs.alloc #[.bool k.t, .int .i64 k.n, .string k.s] tV).alloc #[.bool v.kept, .int .i64 v.num, .slice v.ro v.rn v.rc] tW
  have hkeep := hp.keep
  obtain ⟨f1, f2, f3, f4⟩ := hfit
  obtain ⟨top, T2, hT2⟩ : ∃ top T2, T1.slot false = (top, T2) := ⟨_, _, rfl⟩
  have hSL : ∀ (w : World) (l : List HP), TreeA B D w t T1 l → _ := fun w l => slot_ok false hsl.1 hsl.2.1 hsl.2.2
  have h3k : T3.k = T.k := by rw [hsp.keep, ← hkeep]; exact slot_k T1 false
  have h2k : T2.k = T.k := by rw [← hkeep]; have := slot_k T1 false; rw [hT2] at this; exact this
  have hspl : ∀ (w : World) (l : List HP), TreeA B D w t (T1.top r) l → Calls Try.prog 58 #[.pointer (some ⟨t, 0, none⟩), .int .i64 (T1.slot false).1, .int .i64 0] w fun e w' => e = .returned (.tuple #[]) ∧ TreeA B D w' t T3 l := fun w l => split_ok hsp
  have htop : T1.top r = { T2 with nodes := T2.nodes.set top { freshM false with kids := [r] } } := by unfold TM.top; rw [hT2]
  have hfm : T2.nodes[top]? = some (freshM false) := by
    have e : (T1.slot false).2.nodes[(T1.slot false).1]? = some (freshM false) := by
      unfold TM.slot
      split
      · rename_i x hx
        dsimp only
        rw [List.getElem?_set_self (hsl.1 x hx)]
      · simp
    rw [hT2] at e
    exact e
  rw [htop] at hspl
  rw [hT2] at hspl hSL ⊢
  have hrlt := (List.getElem?_eq_some_iff.1 hk).1
  have HS1 := Lib.hid hs1
  have HR := Lib.hid hr
  have HP := Lib.hid (put_ok (B := B) (D := D) (t := t) hp)
  have HNS := Lib.hid hns
  have HK := Lib.hid hk
  have HK1 := Lib.hid hkeep
  have HRT := Lib.hid hroot
  have HSL := Lib.hid hSL
  have HSPL := Lib.hid hspl
  have H2K := Lib.hid h2k
  have H3K := Lib.hid h3k
  have HFM := Lib.hid hfm
  have hw : IntKind.i64.wrap (T.k.many + 1) = T.k.many + 1 := i64w _ (by omega) (by omega)
  have HW := Lib.hid hw
  have hwd : IntKind.i64.wrap (T.k.depth + 1) = T.k.depth + 1 := i64w _ (by omega) (by omega)
  have HWD := Lib.hid hwd
  clear hs hs1 hr hp hns hk hkeep hw hwd hroot hSL hspl h2k h3k hfm htop hsp hsl hT2
  dsimp only [Val.v, SlotT.v]
  go_enter Try.func39, Try.ntmps39
  go_upto_region 1 with (fail)
  obtain ⟨W, hW, hs2⟩ := HS1.out.hide
  rw [← hW]
  clear HS1 hW
  simp only [World.alloc, Array.size_push] at hs2 ⊢
  generalize hbk : w.heap.size = bk at hs2 ⊢
  generalize hbv_ : bk + 1 = bv at hs2 ⊢
  clear hbk hbv_
  obtain ⟨x0, x1, x2, xf⟩ := cells3 (Sat.blk hs2 5 rfl)
  obtain ⟨v0, v1, v2, vf⟩ := cells3 (Sat.blk hs2 4 rfl)
  have HS2 := Lib.hid hs2
  clear hs2
  go_upto_region 3 with ((go_at_call 52; refine (right_ok k _).mono ?_; rw [HR.out]; rintro e1 w1 ⟨rfl, hk1⟩; have HS3 := Lib.hid (HS2.out.kept hk1); clear hk1 HS2 x0 x1 x2 xf v0 v1 v2 vf))
  obtain ⟨t0, t1, t2, t3, t4, tf⟩ := HS3.out.tcells
  rw [HRT.out] at t2
  have hr0 : ¬ ((r : Int) < 0) := by omega
  obtain ⟨x0, x1, x2, xf⟩ := cells3 (Sat.blk HS3.out 5 rfl)
  obtain ⟨v0, v1, v2, vf⟩ := cells3 (Sat.blk HS3.out 4 rfl)
  have HP5 := Lib.hid (HP.out w1.drew _ ⟨_, _, _, HNS.out, HS3.out.drew⟩)
  clear HS3 HP
  go_upto_region 6 with (fail)
  refine wp_region_canon [(0, false, 7), (1, false, 7), (2, false, 7), (3, false, 7), (4, false, 7), (5, false, 7), (6, false, 7), (7, true, 0), (8, false, 999)] (by kernel_rfl) (by kernel_rfl) ?_
  iterate 7 (refine wpCan_read rfl rfl (fun K hK => ?_); go_simp; refine hK _ ?_; clear hK K)
  refine wpCan_eff rfl ?_
  refine wpList_do rfl (fun K hK => ?_)
  go_simp
  refine HP5.out.mono ?_
  clear t0 t1 t2 t3 t4 tf x0 x1 x2 xf v0 v1 v2 vf hr0
  rintro e6 w6 ⟨rfl, ha6⟩
  have HSZ := Lib.hid (size_ok HK.out ha6)
  have HA7 := Lib.hid (HSL.out _ _ ha6)
  obtain ⟨nv6, fv6, ns6, hns6, hs6⟩ := ha6
  rw [HK1.out] at hs6
  obtain ⟨t0, t1, t2, t3, t4, tf⟩ := hs6.tcells
  rw [HRT.out] at t2
  clear hs6 hns6 HP5 HSL
  refine hK _ _ ?_
  clear hK K
  refine wpList_nil ?_
  refine And.intro ?_ ?_
  · go_simp
  iterate 1 (refine wpCan_read rfl rfl (fun K hK => ?_); go_simp; refine hK _ ?_; clear hK K)
  refine wpCan_nil ?_
  have hz' : ((mk.size : Int) > 4) := by omega
  go_upto_region 9 with (first | (go_at_call 57; refine HSZ.out.mono ?_; rintro e7 w7 ⟨rfl, rfl⟩) | (go_at_call 55; refine HA7.out.mono ?_; clear t0 t1 t2 t3 t4 tf; rintro e7 w7 ⟨rfl, nv7, fv7, ns7, hns7, hs7⟩; rw [H2K.out] at hs7; obtain ⟨⟨okv, ovv, odv⟩, hpo⟩ := get_node hns7 HFM.out; obtain ⟨g, cn, rfl, _, hcm⟩ := hs7.nv_some (by have := (List.getElem?_eq_some_iff.1 hpo).1; omega); unfold maxLen at hcm; have hob : (top : Int) < (ns7.length : Int) := (by have := (List.getElem?_eq_some_iff.1 hpo).1; omega); obtain ⟨t0, t1, t2, t3, t4, tf⟩ := hs7.tcells; obtain ⟨n0, n1, n2, n3, nf⟩ := hs7.node_cells hpo; rw [HRT.out] at t2; dsimp only at n0 n1 n2 n3; have HPO := Lib.hid hpo; have HS7 := Lib.hid hs7; have HNS7 := Lib.hid hns7; clear hs7 hns7 hpo HA7))
  refine wp_region_canon [(0, false, 12), (1, false, 12), (2, false, 12), (3, false, 12), (4, false, 12), (5, false, 9), (6, false, 9), (7, false, 9), (8, false, 9), (9, true, 0), (10, false, 12), (11, false, 12), (12, true, 0)] (by kernel_rfl) (by kernel_rfl) ?_
  iterate 9 (refine wpCan_read rfl rfl (fun K hK => ?_); go_simp; refine hK _ ?_; clear hK K)
  refine wpCan_eff rfl ?_
  refine wpList_plain rfl (fun K hK => ?_)
  go_simp
  refine hK _ _ ?_
  clear hK K
  refine wpList_nil ?_
  have hs8 := (HS7.out.alloc #[.int .i64 (r : Int)] tI).drew
  obtain ⟨W8, hW8, hs8⟩ := hs8.hide
  rw [← hW8]
  generalize w7.heap.size = bx at hs8 ⊢
  clear hW8 HS7 n0 n1 n2 n3 nf t0 t1 t2 t3 t4 tf
  obtain ⟨t0, t1, t2, t3, t4, tf⟩ := hs8.tcells
  obtain ⟨n0, n1, n2, n3, nf⟩ := hs8.node_cells HPO.out
  rw [HRT.out] at t2
  dsimp only at n0 n1 n2 n3
  have HS8 := Lib.hid hs8
  clear hs8
  refine And.intro ?_ ?_
  · go_simp
  iterate 2 (refine wpCan_read rfl rfl (fun K hK => ?_); go_simp; refine hK _ ?_; clear hK K)
  refine wpCan_eff rfl ?_
  refine wpList_plain rfl (fun K hK => ?_)
  go_simp
  refine hK _ _ ?_
  clear hK K
  refine wpList_nil ?_
  refine And.intro ?_ ?_
  · go_simp
  refine wpCan_nil ?_
  go_upto_region 10 with (fail)
  have h8 := Sat.front HS8.out 4 rfl
  simp only [List.eraseIdx_cons_succ, List.eraseIdx_cons_zero] at h8
  have h8' := Sat.row_own (size := 1) (n := 1) (cap := 1) (cur := [.int .i64 (r : Int)]) h8 (by omega) (by unfold maxLen; omega) (by simp) rfl (by intro u hu; simp at hu; subst hu; rfl)
  obtain ⟨W9, hW9, hs9⟩ := (TreeS.put_kids (ds := [r]) HPO.out h8').hide
  rw [← hW9]
  clear hW9 HS8 h8 h8' n0 n1 n2 n3 nf t0 t1 t2 t3 t4 tf
  rw [← H2K.out] at hs9
  have HS9 := Lib.hid (HSPL.out W9 _ ⟨_, _, _, by rw [List.map_set, HNS7.out], hs9⟩)
  clear hs9 HSPL
  have hwd := HWD.out
  have hw := HW.out
  go_upto_region 12 with ((go_at_call 58; refine HS9.out.mono ?_; rintro e10 w10 ⟨rfl, nv10, fv10, ns10, hns10, hs10⟩; rw [H3K.out] at hs10; obtain ⟨t0, t1, t2, t3, t4, tf⟩ := hs10.tcells; have HS10 := Lib.hid hs10; have HNS10 := Lib.hid hns10; clear hs10 hns10 HS9))
  obtain ⟨W11, hW11, hs11⟩ := (HS10.out.set_root top).hide
  rw [← hW11]
  clear hW11 HS10 t0 t1 t2 t3 t4 tf
  obtain ⟨t0, t1, t2, t3, t4, tf⟩ := hs11.tcells
  have HS11 := Lib.hid hs11
  clear hs11
  go_upto_region 13 with (fail)
  obtain ⟨W12, hW12, hs12⟩ := (HS11.out.set_depth (T.k.depth + 1)).hide
  rw [← hW12]
  clear hW12 HS11 t0 t1 t2 t3 t4 tf
  obtain ⟨t0, t1, t2, t3, t4, tf⟩ := hs12.tcells
  have HS12 := Lib.hid hs12
  clear hs12
  cases fr
  · go_wp2_with (fail)
    go_ret
    exact ⟨rfl, _, _, _, HNS10.out, by rw [show (TM.more (T3.high top) false).k = ({ root := (top : Int), many := T.k.many, depth := T.k.depth + 1 } : Num) by rw [← H3K.out]; rfl]; exact HS12.out.drop.drop⟩
  · go_wp2_with (fail)
    go_ret
    exact ⟨rfl, _, _, _, HNS10.out, by rw [show (TM.more (T3.high top) true).k = ({ root := (top : Int), many := T.k.many + 1, depth := T.k.depth + 1 } : Num) by rw [← H3K.out]; rfl]; exact (HS12.out.set_many _).drop.drop⟩
end Go.Proofs.Ytcbklkcpjldcjaa
