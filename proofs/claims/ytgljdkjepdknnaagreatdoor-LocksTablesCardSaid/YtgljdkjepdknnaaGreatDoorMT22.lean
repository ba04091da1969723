/- Joined texts: value.Right. (printed by genlk.py) row.Check, row.Fits. (printed by genlk.py) Reasons in memory. IndexFunc over reasons. (printed by genlk.py) DeleteFunc over reasons. (printed by genlk.py) DeleteFunc over claims. (printed by genlk.py) -/
import Derived.Test.YtgljdkjepdknnaaGreatDoorMT1
import Derived.Test.YtgljdkjepdknnaaGreatDoorMT6
import Derived.Test.YtgljdkjepdknnaaGreatDoorMT21
set_option maxHeartbeats 64000000
namespace Go.Proofs.YtgljdkjepdknnaaGreatDoor
open Go.ChangeShapes Go.WideShapes Go.ChangeAt Go.RowKit
set_option maxRecDepth 100000
set_option linter.unusedSimpArgs false
theorem ig (v : Val) (w : World) : Calls Tryz.prog 122 #[v.v] w fun e w' => e = .returned (.bool (a9 v)) ∧ Kept (fun _ => False) w w' := by
 obtain ⟨t, n, s⟩ := v
 have hk : Kept (fun _ => False) w (w.alloc (.cells #[.bool t, .int .i64 n, .string s] 31)) := (Kept.refl _ _).alloc _
 have HK := BO hk
 clear hk
 cases t
 ·have e : b6 false n s false n ⟨#[]⟩ = a9 ⟨false, n, s⟩ := by simp [b6, a9]
  have E := BO e
  clear e
  go_enter Tryz.func122, Tryz.ntmps122
  go_wp2_with fail
  go_ret
  exact ⟨by rw [← E.out]; rfl, HK.out⟩
 ·by_cases h : n = 0
  ·subst h
   by_cases hs : (s.size : Int) ≤ 12
   ·have E := BO (show a9 ⟨true, 0, s⟩ = true by simp [a9]; omega)
    go_enter Tryz.func122, Tryz.ntmps122
    go_wp2_with fail
    go_ret
    exact ⟨by rw [E.out]; rfl, HK.out⟩
   ·have E := BO (show a9 ⟨true, 0, s⟩ = false by simp [a9]; omega)
    go_enter Tryz.func122, Tryz.ntmps122
    go_wp2_with fail
    go_ret
    exact ⟨by rw [E.out]; rfl, HK.out⟩
  ·have hv : b6 true n s true 0 s = false := by simp [b6, h]
   have E := BO (show a9 ⟨true, n, s⟩ = false by simp [a9, h])
   go_enter Tryz.func122, Tryz.ntmps122
   go_wp2_with fail
   go_ret
   exact ⟨by rw [E.out]; rfl, HK.out⟩
abbrev tV : TypeId := 31
theorem fE {w : World} {g o N cap h : Nat} {keys : List Val} {x : Val} (hrd : Rd w 3 (.slice (some ⟨g, o, none⟩) N cap) N (keys.flatMap Val.cells)) (hx : keys[h]? = some x) :
  w.cell? ⟨g, o + h * 3, none⟩ = some (.bool x.t) ∧ w.cell? ⟨g, o + h * 3 + 1, none⟩ = some (.int .i64 x.n) ∧ w.cell? ⟨g, o + h * 3 + 2, none⟩ = some (.string x.s) := by
 have hlt := (List.getElem?_eq_some_iff.1 hx).1
 rcases hrd.2.2 with ⟨_, _, hv, _, _, _, hcell⟩
 cases hv
 rcases hcell with h0 | ⟨_, _, hg, hc⟩
 ·have := hrd.1
  rw [ez Val.len] at this
  omega
 cases hg
 have a0 := hc _ _ (bF Val.len keys h _ hx 0 _ rfl)
 have a1 := hc _ _ (bF Val.len keys h _ hx 1 _ rfl)
 have a2 := hc _ _ (bF Val.len keys h _ hx 2 _ rfl)
 rw [Nat.add_zero] at a0
 rw [← Nat.add_assoc] at a1 a2
 exact ⟨a0, a1, a2⟩
abbrev tB : TypeId := 4
abbrev tBs : TypeId := 25
abbrev dz : TypeId := 27
abbrev tTabs : TypeId := 28
def dH (b : Bool) : List Value := [.bool b]
theorem blen (b : Bool) : (dH b).length = 1 := rfl
theorem bone (b : Bool) : ∀ u ∈ dH b, u.oneCell' = true := by intro u hu; simp [dH] at hu; subst hu; rfl
abbrev da (w : World) (v : Value) (c : List Bool) : Prop := Rd w 1 v c.length (c.flatMap dH)
def fA (c : List Bool) : Bool := decide (1 ≤ c.length) && decide (c.length ≤ 4)
def chk (c : List Bool) : Int := if fA c then 0 else 1
def dQ (c : List Bool) (r : List Val) (n : Nat) : Bool := ((r.zip c).take n).all fun p => decide (p.1.t = p.2) && a9 p.1
def ex (c : List Bool) (r : List Val) : Bool := fA c && decide (r.length = c.length) && dQ c r r.length
theorem fo {w : World} {g o n c i : Nat} {x : Bool} {cs : List Bool} (h : Rd w 1 (.slice (some ⟨g, o, none⟩) n c) n (cs.flatMap dH)) (hi : cs[i]? = some x) : w.cell? ⟨g, o + i, none⟩ = some (.bool x) := by
 have hlt := (List.getElem?_eq_some_iff.1 hi).1
 rcases h.2.2 with ⟨_, _, hv, _, _, _, hcell⟩
 cases hv
 rcases hcell with h0 | ⟨_, _, hg, hc⟩
 ·have := h.1
  rw [ez blen] at this
  omega
 ·cases hg
  have := hc _ _ (bF blen cs i x hi 0 _ rfl)
  simpa using this
theorem gJ {w : World} {ao : Option Addr} {N cap k : Nat} {xs : List Bool} {x : Bool} (h : Rd w 1 (.slice ao N cap) N (xs.flatMap dH)) (hx : xs[k]? = some x) (hl : xs.length = N) : ∃ g og, ao = some ⟨g, og, none⟩ := by
 have hlt := (List.getElem?_eq_some_iff.1 hx).1
 rcases h.2.2 with ⟨_, _, hv, _, _, _, hc⟩
 cases hv
 rcases hc with h0 | ⟨g, o, hg, _⟩
 ·omega
 ·exact ⟨g, o, hg⟩
theorem jz {w : World} {ao : Option Addr} {N cap k : Nat} {xs : List Val} {x : Val} (h : Rd w 3 (.slice ao N cap) N (xs.flatMap Val.cells)) (hx : xs[k]? = some x) (hl : xs.length = N) : ∃ g og, ao = some ⟨g, og, none⟩ := by
 have hlt := (List.getElem?_eq_some_iff.1 hx).1
 rcases h.2.2 with ⟨_, _, hv, _, _, _, hc⟩
 cases hv
 rcases hc with h0 | ⟨g, o, hg, _⟩
 ·omega
 ·exact ⟨g, o, hg⟩
theorem kv {c : List Bool} {r : List Val} {j : Nat} {x : Val} {b : Bool} (hx : r[j]? = some x) (hb : c[j]? = some b) : dQ c r (j + 1) = (dQ c r j && (decide (x.t = b) && a9 x)) := by
 have hz : (r.zip c)[j]? = some (x, b) := by rw [List.getElem?_zip_eq_some]; exact ⟨hx, hb⟩
 unfold dQ
 rw [List.take_add_one, hz, List.all_append]
 simp
theorem fK {c : List Bool} {r : List Val} {j n : Nat} (h : j ≤ n) (hf : dQ c r j = false) : dQ c r n = false := by
 unfold dQ at *
 rw [List.all_eq_false] at *
 obtain ⟨p, hp, h2⟩ := hf
 exact ⟨p, (List.take_subset_take_left (r.zip c) h) hp, h2⟩
theorem i6 {w : World} {cv : Value} {c : List Bool} (h : da w cv c) : Calls Tryz.prog 78 #[.agg #[cv]] w fun e w' => e = .returned (.int .i64 (chk c)) ∧ Kept (fun _ => False) w w' := by
 obtain ⟨_, m1, ao, cap, rfl, _⟩ := h
 have HK := BO (show Kept (fun _ => False) w (w.alloc (.cells #[.slice ao c.length cap] dz)) from (Kept.refl _ _).alloc _)
 by_cases h1 : 1 ≤ c.length
 ·by_cases h2 : c.length ≤ 4
  ·have HM := BO (show chk c = 0 by simp [chk, fA, h1, h2])
   have e1 : ¬ ((c.length : Int) < 1) := by omega
   have e2 : ¬ ((c.length : Int) > 4) := by omega
   go_enter Tryz.func78, Tryz.ntmps78
   go_wp2_with fail
   go_ret
   rw [HM.out]
   exact ⟨rfl, HK.out⟩
  ·have HM := BO (show chk c = 1 by simp [chk, fA, h2])
   have e1 : ¬ ((c.length : Int) < 1) := by omega
   have e2 : ((c.length : Int) > 4) := by omega
   go_enter Tryz.func78, Tryz.ntmps78
   go_wp2_with fail
   go_ret
   rw [HM.out]
   exact ⟨rfl, HK.out⟩
 ·have HM := BO (show chk c = 1 by simp [chk, fA, h1])
  have e1 : ((c.length : Int) < 1) := by omega
  go_enter Tryz.func78, Tryz.ntmps78
  go_wp2_with fail
  go_ret
  rw [HM.out]
  exact ⟨rfl, HK.out⟩
theorem nE {w : World} {cv rv : Value} {c : List Bool} {r : List Val} (hc : da w cv c) (hr : cO w rv r) : Calls Tryz.prog 124 #[.agg #[cv], rv] w fun e w' => e = .returned (.bool (ex c r)) ∧ Kept (fun _ => False) w w' := by
 have hk1 : Kept (fun _ => False) w (w.alloc (.cells #[cv] dz)) := (Kept.refl _ _).alloc _
 have hb1 : (w.alloc (.cells #[cv] dz)).heap[w.heap.size]? = some (.cells #[cv] dz (0, 0)) := aB w _
 have HC := BO (Rd.kept hc hk1 (fun _ _ h => h))
 have HR := BO (Rd.kept hr hk1 (fun _ _ h => h))
 have sW := BO hk1
 have sZ := BO hb1
 obtain ⟨-, m1, co, ccap, rfl, -⟩ := hc
 obtain ⟨-, m2, ro, rcap, rfl, -⟩ := hr
 clear hk1 hb1
 go_enter Tryz.func124, Tryz.ntmps124
 go_upto_region 1 with (fail)
 obtain ⟨W, hW⟩ : ∃ W, W = w.alloc (.cells #[.slice co c.length ccap] dz) := ⟨_, rfl⟩
 rw [← hW] at HC HR sW sZ ⊢
 generalize w.heap.size = bt at sZ ⊢
 clear hW
 obtain ⟨b0, bf⟩ := aM sZ.out
 have wY := BO (i6 HC.out)
 cases hm : fA c
 ·have HM := BO (show chk c = 1 by simp [chk, hm])
  have HF := BO (show ex c r = false by simp [ex, hm])
  clear hm
  go_wp2_with ((go_at_call 78; refine wY.out.mono ?_; rw [HM.out]; rintro e1 w1 ⟨rfl, hk2⟩; have s8 := BO hk2; clear hk2 b0 bf))
  go_ret
  rw [HF.out]
  exact ⟨rfl, sW.out.trans s8.out (fun _ h => h.elim)⟩
 have HM := BO (show chk c = 0 by simp [chk, hm])
 by_cases hl : r.length = c.length
 ·obtain ⟨N, hN⟩ : ∃ N, r.length = N := ⟨_, rfl⟩
  have HF := BO (show ex c r = dQ c r N by unfold ex; rw [hm, decide_eq_true hl, hN]; rfl)
  have HN := BO hN
  have hcn : c.length = N := by omega
  have zn := BO hcn
  rw [hcn] at HC wY sZ b0 m1 ⊢
  rw [hN] at HR m2 ⊢
  unfold maxLen at m1 m2
  clear hm hl hN hcn
  go_upto_region 3 with ((go_at_call 78; refine wY.out.mono ?_; rw [HM.out]; rintro e1 w1 ⟨rfl, hk2⟩; have s8 := BO hk2; clear hk2 b0 bf; have hb1 := (s8.out.block _ (aI sZ.out) (fun h => h)).trans sZ.out; obtain ⟨b0, bf⟩ := aM hb1; have s7 := BO hb1; clear hb1))
  have ug := BO (Rd.kept HC.out s8.out (fun _ _ h => h))
  have tR := BO (Rd.kept HR.out s8.out (fun _ _ h => h))
  have tn := BO (sW.out.trans s8.out (fun _ h => h.elim))
  clear HC HR sZ wY HM sW s8
  go_wp2_with fail
  clear b0 bf
  go_loopw [20] (fun idx wr => ∃ j : Nat, idx = .int .i64 j ∧ j ≤ N ∧ dQ c r j = true ∧ Kept (fun _ => False) w1 wr) (fun idx _ => N - (intOf idx).toNat)
  case atStart => exact ⟨0, rfl, Nat.zero_le _, by simp [dQ], Kept.refl _ _⟩
  case round =>
   obtain ⟨j, rfl, hj, hno, hkr⟩ := hrel
   by_cases hlt : j < N
   ·obtain ⟨x, hx⟩ : ∃ x, r[j]? = some x := ⟨r[j]'(by rw [HN.out]; exact hlt), List.getElem?_eq_getElem _⟩
    obtain ⟨b, hb⟩ : ∃ b, c[j]? = some b := ⟨c[j]'(by rw [zn.out]; exact hlt), List.getElem?_eq_getElem _⟩
    have hrr := Rd.kept tR.out hkr (fun _ _ h => h)
    obtain ⟨rg, rog, rfl⟩ := jz hrr hx HN.out
    obtain ⟨cg, cog, rfl⟩ := gJ ug.out hb zn.out
    obtain ⟨y0, y1, y2⟩ := fE hrr hx
    have hk3 : Kept (fun _ => False) wr (wr.alloc (.cells #[.bool x.t, .int .i64 x.n, .string x.s] tV)) := (Kept.refl _ _).alloc _
    have hb3 : (wr.alloc (.cells #[.bool x.t, .int .i64 x.n, .string x.s] tV)).heap[wr.heap.size]? = some (.cells #[.bool x.t, .int .i64 x.n, .string x.s] tV (0, 0)) := aB wr _
    have hk4 := hkr.trans hk3 (fun _ h => h.elim)
    have uM := BO hb3
    have ud := BO hk4
    have uH := BO (kv hx hb)
    have tK := BO hno
    have Ah := BO hb
    have hib : (j : Int) < (N : Int) := by omega
    clear hx hb hrr hk3 hb3 hk4 hno hkr
    go_upto_region 6 with (fail)
    obtain ⟨W3, hW3⟩ : ∃ W3, W3 = wr.alloc (.cells #[.bool x.t, .int .i64 x.n, .string x.s] tV) := ⟨_, rfl⟩
    rw [← hW3] at uM ud ⊢
    generalize wr.heap.size = bk at uM ⊢
    clear hW3 y0 y1 y2
    obtain ⟨x0, x1, x2, xf⟩ := fV uM.out
    obtain ⟨b0, bf⟩ := aM ((ud.out.block _ (aI s7.out) (fun h => h)).trans s7.out)
    have hcc := fo (Rd.kept ug.out ud.out (fun _ _ h => h)) Ah.out
    by_cases hxt : x.t = b
    ·subst hxt
     cases hv : a9 x
     ·have HV := BO hv
      have t7 := BO (show dQ c r N = false from fK (show j + 1 ≤ N by omega) (by rw [uH.out, hv]; simp))
      clear hv
      refine af [(0, false, 10), (1, false, 10), (2, false, 10), (3, false, 10), (4, false, 10), (5, false, 10), (6, false, 10), (7, false, 10), (8, false, 10), (9, false, 10), (10, true, 0), (11, false, 999), (12, false, 999)] (by kernel_rfl) (by kernel_rfl) ?_
      iterate 9 (refine ae rfl rfl (fun K hK => ?_); go_simp; refine hK _ ?_; clear hK K)
      first | (refine am rfl rfl ?_; simp only [Act.put, BP, BQ, BR, BS, BT, BU]) | (refine ak rfl rfl (fun K hK => ?_); go_simp; refine hK _ ?_; clear hK K)
      refine al rfl ?_
      refine aw rfl (fun K hK => ?_)
      go_simp
      refine (ig x _).mono ?_
      rintro e4 w4 ⟨rfl, hk5⟩
      rw [HV.out]
      have uq := BO (((tn.out.trans ud.out (fun _ h => h.elim)).trans ((Kept.refl (fun _ => False) W3).drew) (fun _ h => h.elim)).trans hk5 (fun _ h => h.elim))
      clear hk5 x0 x1 x2 xf b0 bf hcc
      refine hK _ _ ?_
      clear hK K
      refine wpList_nil ?_
      refine And.intro ?_ ?_
      ·go_simp
      first | (refine am rfl rfl ?_; simp only [Act.put, BP, BQ, BR, BS, BT, BU]) | (refine ak rfl rfl (fun K hK => ?_); go_simp; refine hK _ ?_; clear hK K)
      refine ae rfl rfl (fun K hK => ?_); go_simp; refine hK _ ?_; clear hK K
      refine ap ?_
      go_wp2_with fail
      go_ret
      rw [HF.out, t7.out]
      exact ⟨rfl, uq.out⟩
     ·have HV := BO hv
      have t7 := BO (show dQ c r (j + 1) = true by rw [uH.out, hv, tK.out]; simp)
      clear hv
      refine af [(0, false, 10), (1, false, 10), (2, false, 10), (3, false, 10), (4, false, 10), (5, false, 10), (6, false, 10), (7, false, 10), (8, false, 10), (9, false, 10), (10, true, 0), (11, false, 999), (12, false, 999)] (by kernel_rfl) (by kernel_rfl) ?_
      iterate 9 (refine ae rfl rfl (fun K hK => ?_); go_simp; refine hK _ ?_; clear hK K)
      first | (refine am rfl rfl ?_; simp only [Act.put, BP, BQ, BR, BS, BT, BU]) | (refine ak rfl rfl (fun K hK => ?_); go_simp; refine hK _ ?_; clear hK K)
      refine al rfl ?_
      refine aw rfl (fun K hK => ?_)
      go_simp
      refine (ig x _).mono ?_
      rintro e4 w4 ⟨rfl, hk5⟩
      rw [HV.out]
      have uq := BO ((ud.out.trans ((Kept.refl (fun _ => False) W3).drew) (fun _ h => h.elim)).trans hk5 (fun _ h => h.elim))
      clear hk5 x0 x1 x2 xf b0 bf hcc
      refine hK _ _ ?_
      clear hK K
      refine wpList_nil ?_
      refine And.intro ?_ ?_
      ·go_simp
      first | (refine am rfl rfl ?_; simp only [Act.put, BP, BQ, BR, BS, BT, BU]) | (refine ak rfl rfl (fun K hK => ?_); go_simp; refine hK _ ?_; clear hK K)
      refine ae rfl rfl (fun K hK => ?_); go_simp; refine hK _ ?_; clear hK K
      refine ap ?_
      go_wp2_with fail
      go_roundw
      case rel => exact ⟨j + 1, by go_num, by omega, t7.out, uq.out⟩
      case measure => simp [intOf]; omega
    ·obtain rfl : b = !x.t := by cases b <;> cases h : x.t <;> simp_all
     have t7 := BO (show dQ c r N = false from fK (show j + 1 ≤ N by omega) (by rw [uH.out]; simp))
     clear hxt
     refine af [(0, false, 10), (1, false, 10), (2, false, 10), (3, false, 10), (4, false, 10), (5, false, 10), (6, false, 10), (7, false, 10), (8, false, 10), (9, false, 10), (10, true, 0), (11, false, 999), (12, false, 999)] (by kernel_rfl) (by kernel_rfl) ?_
     iterate 9 (refine ae rfl rfl (fun K hK => ?_); go_simp; refine hK _ ?_; clear hK K)
     first | (refine am rfl rfl ?_; simp only [Act.put, BP, BQ, BR, BS, BT, BU]) | (refine ak rfl rfl (fun K hK => ?_); go_simp; refine hK _ ?_; clear hK K)
     refine al rfl ?_
     refine bI rfl ?_
     simp only [Act.put, BP, BQ, BR]
     refine wpList_nil ?_
     refine And.intro ?_ ?_
     ·go_simp
     first | (refine am rfl rfl ?_; simp only [Act.put, BP, BQ, BR, BS, BT, BU]) | (refine ak rfl rfl (fun K hK => ?_); go_simp; refine hK _ ?_; clear hK K)
     refine ae rfl rfl (fun K hK => ?_); go_simp; refine hK _ ?_; clear hK K
     refine ap ?_
     have uq := BO ((tn.out.trans ud.out (fun _ h => h.elim)).trans ((Kept.refl (fun _ => False) W3).drew) (fun _ h => h.elim))
     go_wp2_with fail
     go_ret
     rw [HF.out, t7.out]
     exact ⟨rfl, uq.out⟩
   ·obtain rfl : j = N := by omega
    have t7 := BO hno
    have Ai := BO (tn.out.trans hkr (fun _ h => h.elim))
    clear hno hkr
    go_wp2_with fail
    go_ret
    rw [HF.out, t7.out]
    exact ⟨rfl, Ai.out⟩
 ·have HF := BO (show ex c r = false by unfold ex; rw [hm, decide_eq_false hl]; rfl)
  have hl' : ¬ ((r.length : Int) = (c.length : Int)) := by omega
  clear hm hl
  go_wp2_with ((go_at_call 78; refine wY.out.mono ?_; rw [HM.out]; rintro e1 w1 ⟨rfl, hk2⟩; have s8 := BO hk2; clear hk2 b0 bf; obtain ⟨b0, bf⟩ := aM ((s8.out.block _ (aI sZ.out) (fun h => h)).trans sZ.out)))
  go_ret
  rw [HF.out]
  exact ⟨rfl, sW.out.trans s8.out (fun _ h => h.elim)⟩
abbrev tRs : TypeId := 125
abbrev tLk : TypeId := 77
structure RsnE where
 o : Int
 x : ClmE
 why : Int
def bv (e : RsnE) : List Value := [.int .i64 e.o, .int .i64 e.x.kind, .int .i64 e.x.table, .int .i64 e.x.mode, .bool e.x.key.t, .int .i64 e.x.key.n, .string e.x.key.s, .slice e.x.ia e.x.il e.x.ic, .int .i64 e.x.pr.op, .int .i64 e.x.pr.col, .bool e.x.pr.v.t, .int .i64 e.x.pr.v.n, .string e.x.pr.v.s, .bool e.x.pr.w.t, .int .i64 e.x.pr.w.n, .string e.x.pr.w.s, .slice e.x.pr.la e.x.pr.ln e.x.pr.lc, .int .u8 e.why]
abbrev it (e : RsnE) : Rsn := ⟨e.o, e.x.c, e.why⟩
abbrev OkW (D : PH) (e : RsnE) : Prop := ClOk D e.x
theorem jv (e : RsnE) : (bv e).length = 18 := rfl
theorem oneW (e : RsnE) : ∀ u ∈ bv e, u.oneCell' = true := by intro u hu; simp [bv] at hu; rcases hu with rfl | rfl | rfl | rfl | rfl | rfl | rfl | rfl | rfl | rfl | rfl | rfl | rfl | rfl | rfl | rfl | rfl | rfl <;> rfl
@[go_sem] theorem sizeW (e : RsnE) : (bv e).toArray.size = 18 := rfl
theorem pw {w : World} {g o : Nat} {e : RsnE} (h : w.rangeAt g o (bv e)) : (loadVar tRs ⟨g, o, none⟩).run Tryz.prog w = .ok (.agg (bv e).toArray) w := run_loadVar_mid w g o _ _ _ h Tryz.underlying125 rfl (by kernel_rfl)
theorem whyW {w : World} {g o : Nat} {e : RsnE} (h : w.rangeAt g o (bv e)) : w.cell? ⟨g, o, none⟩ = some (.int .i64 e.o) ∧ w.cell? ⟨g, o + 17, none⟩ = some (.int .u8 e.why) := ⟨h 0 _ rfl, h 17 _ rfl⟩
theorem sM {w : World} {b : Nat} {e : RsnE} {t : TypeId} {fr : Nat × Nat} (h : w.heap[b]? = some (.cells (bv e).toArray t fr)) : w.cell? ⟨b, 0, none⟩ = some (.int .i64 e.o) ∧ w.cell? ⟨b, 17, none⟩ = some (.int .u8 e.why) := by
 refine ⟨?_, ?_⟩ <;> simp [World.cell?, h, bv]
theorem sf {w : World} {b : Nat} {e : RsnE} {t : TypeId} {fr : Nat × Nat} (h : w.heap[b]? = some (.cells (bv e).toArray t fr)) : w.rangeAt b 1 e.x.cells := fun j v hv => by
 rw [cell_of_row w b (1 + j) _ t fr h]
 have hj : j < 16 := by have := (List.getElem?_eq_some_iff.1 hv).1; rwa [ClmE.len] at this
 rw [← hv]
 rw [show 1 + j = j + 1 by omega]
 simp only [List.getElem?_toArray, bv, List.getElem?_cons_succ]
 show (e.x.cells ++ [.int .u8 e.why])[j]? = _
 rw [List.getElem?_append_left (by rw [ClmE.len]; exact hj)]
def RepW (D : PH) (rs : List RsnE) (L : List Rsn) : Prop := rs.map it = L ∧ ∀ x ∈ rs, OkW D x
abbrev ns (v : Value) (rs : List RsnE) : HP := aJ tRs 18 v rs.length (rs.flatMap bv)
theorem RepW.mono {D D' : PH} (le : PH.le D D') {rs : List RsnE} {L : List Rsn} (h : RepW D rs L) : RepW D' rs L := ⟨h.1, fun x hx => (h.2 x hx).mono le⟩
theorem pY (p : Rsn → Bool) (rs : List RsnE) : cl (fun x => p (it x)) rs = cl p (rs.map it) := by
 unfold cl
 rw [List.findIdx?_map]
 rfl
def TblsAt (D : PH) (v : Value) (ts : List (List Bool)) : Prop := ∃ hs : List Value, hs.length = ts.length ∧ (∀ u ∈ hs, u.oneCell' = true) ∧ RdP D 1 v ts.length hs ∧ ∀ (i : Nat) (h : Value) (r : List Bool), hs[i]? = some h → ts[i]? = some r → RdP D 1 h r.length (r.flatMap dH)
def TblsRd (w : World) (v : Value) (ts : List (List Bool)) : Prop := ∃ hs : List Value, hs.length = ts.length ∧ Rd w 1 v ts.length hs ∧ ∀ (i : Nat) (h : Value) (r : List Bool), hs[i]? = some h → ts[i]? = some r → Rd w 1 h r.length (r.flatMap dH)
theorem TblsAt.mono {D D' : PH} (le : PH.le D D') {v : Value} {ts : List (List Bool)} (h : TblsAt D v ts) : TblsAt D' v ts := by
 obtain ⟨hs, h1, h2, h3, h4⟩ := h
 exact ⟨hs, h1, h2, h3.mono le, fun i u r a b => (h4 i u r a b).mono le⟩
theorem TblsAt.rd {B w : World} {D : PH} {l : List HP} (hs : Sat B D w l) {v : Value} {ts : List (List Bool)} (h : TblsAt D v ts) : TblsRd w v ts := by
 obtain ⟨us, h1, h2, h3, h4⟩ := h
 exact ⟨us, h1, h3.rd hs, fun i u r a b => (h4 i u r a b).rd hs⟩
theorem TblsRd.kept {w w' : World} (k : Kept (fun _ => False) w w') {v : Value} {ts : List (List Bool)} (h : TblsRd w v ts) : TblsRd w' v ts := by
 obtain ⟨hs, h1, h2, h3⟩ := h
 exact ⟨hs, h1, h2.kept k (fun _ _ h => h), fun i u r a b => (h3 i u r a b).kept k (fun _ _ h => h)⟩
abbrev lkb (L q : Nat) (tv : Value) (room : Int) (rv : Value) : HP := blk L #[.pointer (some ⟨q, 0, none⟩), tv, .int .i64 room, rv] tLk
def b7 (D : PH) (L : Nat) (ts : List (List Bool)) (room : Int) (m : LkM) : HP := exP (fun x : (Nat × Value) × (Value × List RsnE) => TblsAt D x.1.2 ts ∧ RepW D x.2.2 m.why) (fun x => [lkb L x.1.1 x.1.2 room x.2.1, bP D x.1.1 m.q, ns x.2.1 x.2.2])
section
variable {B w : World} {D D' : PH} {l : List HP} {L : Nat} {ts : List (List Bool)} {room : Int} {m : LkM}
theorem bW (h : Sat B D w (b7 D' L ts room m :: l)) : ∃ (q : Nat) (tv rv : Value) (rs : List RsnE), TblsAt D' tv ts ∧ RepW D' rs m.why ∧ Sat B D w (lkb L q tv room rv :: bP D' q m.q :: ns rv rs :: l) := by
 obtain ⟨⟨⟨q, tv⟩, rv, rs⟩, ⟨h1, h2⟩, h3⟩ := Sat.open_ex h
 exact ⟨q, tv, rv, rs, h1, h2, h3⟩
theorem bN {q : Nat} {tv rv : Value} {rs : List RsnE} (h1 : TblsAt D' tv ts) (h2 : RepW D' rs m.why) (h : Sat B D w (lkb L q tv room rv :: bP D' q m.q :: ns rv rs :: l)) : Sat B D w (b7 D' L ts room m :: l) :=
 Sat.close_ex ((q, tv), rv, rs) ⟨h1, h2⟩ h
end
theorem jf {w : World} {v : Value} {xs : List (RsnE)} {F : Nat} {caps : Array Value} (p : RsnE → Bool) (hrd : Rd w 18 v xs.length (xs.flatMap bv)) (HF : ∀ x ∈ xs, PredF F caps w (bv x) (p x)) :
  Calls Tryz.prog 138 #[v, .func (.func F) #[] caps] w fun e w' => e = .returned (.int .i64 (cl p xs)) ∧ Kept (fun _ => False) w w' := by
 obtain ⟨_, hml, ao, cap, rfl, hnc, hcm, _⟩ := id hrd
 unfold maxLen at hml hcm
 have s5 := BO hrd
 have t7 := BO HF
 clear hrd HF
 obtain ⟨N, hN⟩ : ∃ N, xs.length = N := ⟨_, rfl⟩
 have HN := BO hN
 rw [hN] at s5 hml hnc ⊢
 clear hN
 go_enter Tryz.func138, Tryz.ntmps138
 go_wp2_with fail
 go_loopw [8] (fun i wr => ∃ j : Nat, i = .int .i64 j ∧ j ≤ N ∧ (∀ x ∈ xs.take j, p x = false) ∧ Kept (fun _ => False) w wr) (fun i _ => N - (intOf i).toNat)
 case atStart => exact ⟨0, rfl, by omega, fun x hx => by simp at hx, Kept.refl _ _⟩
 case round =>
  obtain ⟨j, rfl, hj, hp, hk⟩ := hrel
  have HP := BO hp
  have HK := BO hk
  clear hp hk
  by_cases hlt : j < N
  ·have hi : (j : Int) < (N : Int) := by omega
   obtain ⟨x, hx⟩ : ∃ x, xs[j]? = some x := ⟨xs[j]'(by rw [HN.out]; exact hlt), List.getElem?_eq_getElem _⟩
   obtain ⟨g, o, rfl, hrng⟩ := aD jv (s5.out.kept HK.out (fun _ _ h => h)) hx HN.out
   have HL := BO (pw hrng)
   have HX := BO hx
   obtain ⟨hent, hcall⟩ := t7.out x (List.mem_of_getElem? hx)
   unfold Enters at hent
   have HC := BO (hcall wr HK.out)
   clear hx hrng hcall
   cases hpx : p x
   ·rw [hpx] at HC
    have up := BO hpx
    clear hpx
    go_wp2_with (first | (refine ag rfl _ _ rfl _ _ rfl _ HL.out ?_) | (refine HC.out.mono ?_; rintro e1 w1 ⟨rfl, hk1⟩; have sW := BO (HK.out.trans hk1 (fun _ h => h.elim)); clear hk1 HC HL))
    go_roundw
    case rel => exact ⟨j + 1, by go_num, by omega, cN HP.out HX.out up.out, sW.out⟩
    case measure => simp [intOf]; omega
   ·rw [hpx] at HC
    have up := BO hpx
    clear hpx
    go_wp2_with (first | (refine ag rfl _ _ rfl _ _ rfl _ HL.out ?_) | (refine HC.out.mono ?_; rintro e1 w1 ⟨rfl, hk1⟩; have sW := BO (HK.out.trans hk1 (fun _ h => h.elim)); clear hk1 HC HL))
    go_ret
    exact ⟨by rw [eN HP.out HX.out up.out]; rfl, sW.out⟩
  ·have hi : ¬ ((j : Int) < (N : Int)) := by omega
   have he : cl p xs = -1 := dt (by have := HP.out; rwa [List.take_of_length_le (by rw [HN.out]; omega)] at this)
   have HE := BO he
   clear he
   go_wp2_with fail
   go_ret
   exact ⟨by rw [HE.out]; rfl, HK.out⟩
theorem zone_W : ∀ u ∈ (Value.agg #[.int .i64 0, .int .i64 0, .int .i64 0, .int .i64 0, .bool false, .int .i64 0, .string ⟨#[]⟩, .slice none 0 0, .int .i64 0, .int .i64 0, .bool false, .int .i64 0, .string ⟨#[]⟩, .bool false, .int .i64 0, .string ⟨#[]⟩, .slice none 0 0, .int .u8 0]).cells.toList, u.oneCell' = true := by intro u hu; simp [Value.cells] at hu; rcases hu with rfl | rfl | rfl | rfl | rfl | rfl | rfl | rfl | rfl | rfl | rfl | rfl | rfl | rfl | rfl | rfl | rfl | rfl <;> rfl
theorem zeroV_W (w : World) : (zeroValue tRs).run Tryz.prog w = .ok (.agg #[.int .i64 0, .int .i64 0, .int .i64 0, .int .i64 0, .bool false, .int .i64 0, .string ⟨#[]⟩, .slice none 0 0, .int .i64 0, .int .i64 0, .bool false, .int .i64 0, .string ⟨#[]⟩, .bool false, .int .i64 0, .string ⟨#[]⟩, .slice none 0 0, .int .u8 0]) w := Tryz.zeroValue125 w
theorem hY {B w : World} {D : PH} {l : List HP} {v : Value} {n : Nat} {xs : List (RsnE)} {F : Nat} {caps : Array Value} (p : RsnE → Bool) (hn : xs.length = n) (hent : Enters Tryz.prog F) (hs : Sat B D w (aJ tRs 18 v n (xs.flatMap bv) :: l))
  (HF : ∀ x ∈ xs, PredS B D l F caps (bv x) (p x)) :
  Calls Tryz.prog 89 #[v, .func (.func F) #[] caps] w fun e w' => ∃ v', e = .returned v' ∧ Sat B D w' (aJ tRs 18 v' (xs.filter (fun x => !p x)).length ((xs.filter (fun x => !p x)).flatMap bv) :: l) := by
 have hle := (hs.own 0 rfl).le
 obtain ⟨ao, cap, rfl, hnc, hcm, _⟩ := (hs.own 0 rfl).rd.2.2
 have hcm' := hcm
 unfold maxLen at hle hcm
 have wM := BO hcm'
 have HN := BO hn
 have tX := BO (jf p (by rw [hn]; exact (hs.own 0 rfl).rd) (fun x hx => ⟨hent, fun W hW => HF x hx W [_] (hs.kept hW)⟩))
 have HS := BO hs
 have t7 := BO HF
 have wN := BO hent
 clear hs HF hn hent hcm'
 by_cases hall : ∀ y ∈ xs, p y = false
 ·have hi := dt hall
  rw [hi] at tX
  have hfil : xs.filter (fun x => !p x) = xs := List.filter_eq_self.2 (fun x hx => by simp [hall x hx])
  have wO := BO hfil
  clear hall hi hfil
  go_enter Tryz.func89, Tryz.ntmps89
  go_wp2_with (go_at_call 138; refine tX.out.mono ?_; rintro e1 w1 ⟨rfl, hk1⟩; have sS := BO (HS.out.kept hk1); clear hk1 HS tX)
  go_ret
  exact ⟨_, rfl, by rw [wO.out, HN.out]; exact sS.out⟩
 have hex : ∃ (m : Nat) (x : RsnE), xs[m]? = some x ∧ p x = true ∧ ∀ y ∈ xs.take m, p y = false := by
  cases hf : xs.findIdx? p with
  | none => exact absurd (List.findIdx?_eq_none_iff.1 hf) hall
  | some m =>
   obtain ⟨hlt, h1, h2⟩ := List.findIdx?_eq_some_iff_getElem.1 hf
   refine ⟨m, xs[m], List.getElem?_eq_getElem hlt, h1, fun y hy => ?_⟩
   obtain ⟨i, hi, rfl⟩ := List.mem_take_iff_getElem.1 hy
   have := h2 i (by omega)
   simpa using this
 obtain ⟨m, x0, hx0, hpx0, hbef⟩ := hex
 have hi := eN hbef hx0 hpx0
 rw [hi] at tX
 have hm : m < n := by have := (List.getElem?_eq_some_iff.1 hx0).1; rw [HN.out] at this; exact this
 have hfm : (xs.take m).filter (fun x => !p x) = xs.take m := List.filter_eq_self.2 (fun x hx => by simp [hbef x hx])
 have hf0 : (xs.take (m + 1)).filter (fun x => !p x) = xs.take m := by rw [aQ (q := fun x => !p x) hx0 (by simp [hpx0]), hfm]
 have y9 := BO hf0
 clear hall hi hbef hx0 hpx0 hfm hf0
 have hw1 : IntKind.i64.wrap ((m : Int) + 1) = (m : Int) + 1 := IntWalk.i64_in _ (by omega)
 have hq1 : ((m : Int) == -1) = false := by simp
 obtain ⟨g, rfl⟩ : ∃ g, ao = some ⟨g, 0, none⟩ := by
  rcases (HS.out.own 0 rfl).2.2 with ⟨h1, h2⟩ | ⟨g, c2, cur, h1, _⟩
  ·omega
  ·cases h1; exact ⟨g, rfl⟩
 go_enter Tryz.func89, Tryz.ntmps89
 go_wp2_with (go_at_call 138; refine tX.out.mono ?_; rintro e1 w1 ⟨rfl, hk1⟩; have sS := BO (HS.out.kept hk1); clear hk1 HS tX)
 clear hw1 hq1
 go_loopw [5, 6] (fun ki ji wr => ∃ (i j : Nat) (ys : List (RsnE)), ki = .int .i64 i ∧ ji = .int .i64 j ∧ i < j ∧ j ≤ n ∧ ys.length = n ∧ ys.take i = (xs.take j).filter (fun x => !p x) ∧ ys.drop j = xs.drop j ∧ Sat B D wr (aJ tRs 18 (.slice (some ⟨g, 0, none⟩) n cap) n (ys.flatMap bv) :: l)) (fun _ ji _ => n - (intOf ji).toNat)
 case atStart => exact ⟨m, m + 1, xs, rfl, by go_num, by omega, by omega, HN.out, y9.out.symm, rfl, sS.out⟩
 case round =>
  obtain ⟨i, j, ys, rfl, rfl, hij, hj, hyl, hyt, hyd, hs2⟩ := hrel
  have vr := BO hyl
  have wP := BO hyt
  have wQ := BO hyd
  have sX := BO hs2
  clear hyl hyt hyd hs2 sS
  by_cases hlt : j < n
  ·have hji : (j : Int) < (n : Int) := by omega
   obtain ⟨x, hx⟩ : ∃ x, xs[j]? = some x := ⟨xs[j]'(by rw [HN.out]; exact hlt), List.getElem?_eq_getElem _⟩
   have hyx : ys[j]? = some x := by
    have h1 := congrArg (fun L => L[0]?) wQ.out
    simp only [List.getElem?_drop, Nat.add_zero] at h1
    rw [h1, hx]
   obtain ⟨g', o', hg', hrng⟩ := aD jv (sX.out.own 0 rfl).rd hyx vr.out
   obtain ⟨rfl, rfl⟩ : g = g' ∧ 0 = o' := by cases hg'; exact ⟨rfl, rfl⟩
   rw [Nat.zero_add] at hrng
   have HL := BO (pw hrng)
   clear hg' hrng hyx
   have HX := BO hx
   have hmem := List.mem_of_getElem? hx
   have sU := BO (sX.out.alloc (bv x).toArray tRs)
   clear hx
   go_upto_region 8 with (first | (refine ag rfl _ _ rfl _ _ rfl _ HL.out ?_) | (refine ax rfl _ _ _ rfl (bv x) _ _ rfl rfl (by kernel_rfl) rfl (oneW x) ?_))
   clear HL sX
   obtain ⟨W3, hW3, hs3⟩ := Sat.hide sU.out
   rw [← hW3]
   clear hW3 sU
   generalize wr.heap.size = bx at hs3 ⊢
   have HL := BO (pw (ai (hs3.blk 0 rfl)))
   have HC := BO (t7.out x hmem W3 [_, _] hs3)
   have sU := BO hs3
   clear hs3 hmem
   have hent := wN.out
   unfold Enters at hent
   cases hpx : p x
   ·rw [hpx] at HC
    have up := BO (aO (q := fun x => !p x) HX.out (by simp [hpx]))
    clear hpx
    have hw2 : IntKind.i64.wrap ((i : Int) + 1) = (i : Int) + 1 := IntWalk.i64_in _ (by omega)
    have hin : i < n := by omega
    go_upto_region 9 with (first | (refine ag rfl _ _ rfl _ _ rfl _ HL.out ?_) | (refine HC.out.mono ?_; rintro e1 w1 ⟨rfl, hk1⟩; have sY := BO (sU.out.kept hk1); clear hk1 HC HL sU))
    clear hent
    have HL := BO (pw (ai (sY.out.blk 0 rfl)))
    go_wp2_with (first | (refine ag rfl _ _ rfl _ _ rfl _ HL.out ?_) | (refine ct jv oneW rfl _ _ _ rfl tRs g _ i n cap rfl (by omega) x rfl ys sY.out.swap (by kernel_rfl) hin vr.out ?_; intro w5 hs5; have sV := BO hs5; clear hs5 sY HL))
    go_roundw
    case rel =>
     refine ⟨i + 1, j + 1, ys.set i x, by go_num, by go_num, by omega, by omega, by rw [List.length_set]; exact vr.out, ?_, ?_, sV.out.swap.drop⟩
     ·rw [up.out, ← wP.out, eo (by rw [vr.out]; exact hin)]
     ·rw [List.drop_set, if_pos (by omega), ← List.drop_drop, wQ.out, List.drop_drop]
    case measure => simp [intOf]; omega
   ·rw [hpx] at HC
    have up := BO (aQ (q := fun x => !p x) HX.out (by simp [hpx]))
    clear hpx
    go_wp2_with (first | (refine ag rfl _ _ rfl _ _ rfl _ HL.out ?_) | (refine HC.out.mono ?_; rintro e1 w1 ⟨rfl, hk1⟩; have sY := BO (sU.out.kept hk1); clear hk1 HC HL sU))
    clear hent
    go_roundw
    case rel => exact ⟨i, j + 1, ys, rfl, by go_num, by omega, by omega, vr.out, by rw [up.out, wP.out], by rw [← List.drop_drop, wQ.out, List.drop_drop], sY.out.drop⟩
    case measure => simp [intOf]; omega
  ·have hji : ¬ ((j : Int) < (n : Int)) := by omega
   have hin : i < n := by omega
   have hb0 : (i : Int) ≤ (n : Int) := by omega
   have hb1 : (n : Int) ≤ (cap : Int) := by omega
   have hb2 : (i : Int) ≤ (cap : Int) := by omega
   have hb3 : i < cap := by omega
   have hb4 : ¬ (cap = i) := by omega
   have hfin : ys.take i = xs.filter (fun x => !p x) := by rw [wP.out, List.take_of_length_le (by rw [HN.out]; omega)]
   have vE := BO hfin
   have tO := BO (show (xs.filter (fun x => !p x)).length = i by rw [← hfin, List.length_take, vr.out]; omega)
   obtain ⟨cur, h4, _, _, hcz, hct, _, _⟩ := sX.out.own_row
   have H4 := BO h4
   have wu := BO hct
   have uh := BO (sX.out.own 0 rfl).2.1
   clear h4 hct sX hfin
   go_wp2_with (show wpList _ _ _ (⟨none, .call _, _, _, _, _⟩ :: _) _ _; refine cP _ rfl _ 75 rfl tRs _ Tryz.underlying75 zeroV_W g _ (n - i) _ rfl cur H4.out (by omega) (by simp [size_zeroCells, Value.cells]; omega) (eq zone_W _) ?_; intro w5 h5; have H5 := BO h5; clear h5)
   go_ret
   refine ⟨_, rfl, ?_⟩
   rw [tO.out]
   refine H5.out.row_own (by omega) wM.out (by rw [ep _ _ _ (by simp [size_zeroCells, Value.cells]; omega)]; exact hcz) ?_ ?_
   ·unfold lay
    rw [List.append_assoc, List.take_append_of_le_length (by rw [List.length_take]; omega), List.take_of_length_le (by rw [List.length_take]; omega), ← vE.out, ← cF jv, ← wu.out, List.take_take]
    congr 1
    omega
   ·intro u hu
    rw [← vE.out, ← cF jv] at hu
    exact uh.out u (List.mem_of_mem_take hu)
theorem zone_Cl : ∀ u ∈ (Value.agg #[.int .i64 0, .int .i64 0, .int .i64 0, .bool false, .int .i64 0, .string ⟨#[]⟩, .slice none 0 0, .int .i64 0, .int .i64 0, .bool false, .int .i64 0, .string ⟨#[]⟩, .bool false, .int .i64 0, .string ⟨#[]⟩, .slice none 0 0]).cells.toList, u.oneCell' = true := by intro u hu; simp [Value.cells] at hu; rcases hu with rfl | rfl | rfl | rfl | rfl | rfl | rfl | rfl | rfl | rfl | rfl | rfl | rfl | rfl | rfl | rfl <;> rfl
theorem qW (w : World) : (zeroValue tCl).run Tryz.prog w = .ok (.agg #[.int .i64 0, .int .i64 0, .int .i64 0, .bool false, .int .i64 0, .string ⟨#[]⟩, .slice none 0 0, .int .i64 0, .int .i64 0, .bool false, .int .i64 0, .string ⟨#[]⟩, .bool false, .int .i64 0, .string ⟨#[]⟩, .slice none 0 0]) w := Tryz.zeroValue37 w
theorem kU {B w : World} {D : PH} {l : List HP} {v : Value} {n : Nat} {xs : List (ClmE)} {F : Nat} {caps : Array Value} (p : ClmE → Bool) (hn : xs.length = n) (hent : Enters Tryz.prog F) (hs : Sat B D w (aJ tCl 16 v n (xs.flatMap ClmE.cells) :: l))
  (HF : ∀ x ∈ xs, PredS B D l F caps (ClmE.cells x) (p x)) :
  Calls Tryz.prog 93 #[v, .func (.func F) #[] caps] w fun e w' => ∃ v', e = .returned v' ∧ Sat B D w' (aJ tCl 16 v' (xs.filter (fun x => !p x)).length ((xs.filter (fun x => !p x)).flatMap ClmE.cells) :: l) := by
 have hle := (hs.own 0 rfl).le
 obtain ⟨ao, cap, rfl, hnc, hcm, _⟩ := (hs.own 0 rfl).rd.2.2
 have hcm' := hcm
 unfold maxLen at hle hcm
 have wM := BO hcm'
 have HN := BO hn
 have tX := BO (hU p (by rw [hn]; exact (hs.own 0 rfl).rd) (fun x hx => ⟨hent, fun W hW => HF x hx W [_] (hs.kept hW)⟩))
 have HS := BO hs
 have t7 := BO HF
 have wN := BO hent
 clear hs HF hn hent hcm'
 by_cases hall : ∀ y ∈ xs, p y = false
 ·have hi := dt hall
  rw [hi] at tX
  have hfil : xs.filter (fun x => !p x) = xs := List.filter_eq_self.2 (fun x hx => by simp [hall x hx])
  have wO := BO hfil
  clear hall hi hfil
  go_enter Tryz.func93, Tryz.ntmps93
  go_wp2_with (go_at_call 130; refine tX.out.mono ?_; rintro e1 w1 ⟨rfl, hk1⟩; have sS := BO (HS.out.kept hk1); clear hk1 HS tX)
  go_ret
  exact ⟨_, rfl, by rw [wO.out, HN.out]; exact sS.out⟩
 have hex : ∃ (m : Nat) (x : ClmE), xs[m]? = some x ∧ p x = true ∧ ∀ y ∈ xs.take m, p y = false := by
  cases hf : xs.findIdx? p with
  | none => exact absurd (List.findIdx?_eq_none_iff.1 hf) hall
  | some m =>
   obtain ⟨hlt, h1, h2⟩ := List.findIdx?_eq_some_iff_getElem.1 hf
   refine ⟨m, xs[m], List.getElem?_eq_getElem hlt, h1, fun y hy => ?_⟩
   obtain ⟨i, hi, rfl⟩ := List.mem_take_iff_getElem.1 hy
   have := h2 i (by omega)
   simpa using this
 obtain ⟨m, x0, hx0, hpx0, hbef⟩ := hex
 have hi := eN hbef hx0 hpx0
 rw [hi] at tX
 have hm : m < n := by have := (List.getElem?_eq_some_iff.1 hx0).1; rw [HN.out] at this; exact this
 have hfm : (xs.take m).filter (fun x => !p x) = xs.take m := List.filter_eq_self.2 (fun x hx => by simp [hbef x hx])
 have hf0 : (xs.take (m + 1)).filter (fun x => !p x) = xs.take m := by rw [aQ (q := fun x => !p x) hx0 (by simp [hpx0]), hfm]
 have y9 := BO hf0
 clear hall hi hbef hx0 hpx0 hfm hf0
 have hw1 : IntKind.i64.wrap ((m : Int) + 1) = (m : Int) + 1 := IntWalk.i64_in _ (by omega)
 have hq1 : ((m : Int) == -1) = false := by simp
 obtain ⟨g, rfl⟩ : ∃ g, ao = some ⟨g, 0, none⟩ := by
  rcases (HS.out.own 0 rfl).2.2 with ⟨h1, h2⟩ | ⟨g, c2, cur, h1, _⟩
  ·omega
  ·cases h1; exact ⟨g, rfl⟩
 go_enter Tryz.func93, Tryz.ntmps93
 go_wp2_with (go_at_call 130; refine tX.out.mono ?_; rintro e1 w1 ⟨rfl, hk1⟩; have sS := BO (HS.out.kept hk1); clear hk1 HS tX)
 clear hw1 hq1
 go_loopw [5, 6] (fun ki ji wr => ∃ (i j : Nat) (ys : List (ClmE)), ki = .int .i64 i ∧ ji = .int .i64 j ∧ i < j ∧ j ≤ n ∧ ys.length = n ∧ ys.take i = (xs.take j).filter (fun x => !p x) ∧ ys.drop j = xs.drop j ∧ Sat B D wr (aJ tCl 16 (.slice (some ⟨g, 0, none⟩) n cap) n (ys.flatMap ClmE.cells) :: l)) (fun _ ji _ => n - (intOf ji).toNat)
 case atStart => exact ⟨m, m + 1, xs, rfl, by go_num, by omega, by omega, HN.out, y9.out.symm, rfl, sS.out⟩
 case round =>
  obtain ⟨i, j, ys, rfl, rfl, hij, hj, hyl, hyt, hyd, hs2⟩ := hrel
  have vr := BO hyl
  have wP := BO hyt
  have wQ := BO hyd
  have sX := BO hs2
  clear hyl hyt hyd hs2 sS
  by_cases hlt : j < n
  ·have hji : (j : Int) < (n : Int) := by omega
   obtain ⟨x, hx⟩ : ∃ x, xs[j]? = some x := ⟨xs[j]'(by rw [HN.out]; exact hlt), List.getElem?_eq_getElem _⟩
   have hyx : ys[j]? = some x := by
    have h1 := congrArg (fun L => L[0]?) wQ.out
    simp only [List.getElem?_drop, Nat.add_zero] at h1
    rw [h1, hx]
   obtain ⟨g', o', hg', hrng⟩ := aD ClmE.len (sX.out.own 0 rfl).rd hyx vr.out
   obtain ⟨rfl, rfl⟩ : g = g' ∧ 0 = o' := by cases hg'; exact ⟨rfl, rfl⟩
   rw [Nat.zero_add] at hrng
   have HL := BO (ay hrng)
   clear hg' hrng hyx
   have HX := BO hx
   have hmem := List.mem_of_getElem? hx
   have sU := BO (sX.out.alloc (ClmE.cells x).toArray tCl)
   clear hx
   go_upto_region 8 with (first | (refine ag rfl _ _ rfl _ _ rfl _ HL.out ?_) | (refine ax rfl _ _ _ rfl (ClmE.cells x) _ _ rfl rfl (by kernel_rfl) rfl (ClmE.one x) ?_))
   clear HL sX
   obtain ⟨W3, hW3, hs3⟩ := Sat.hide sU.out
   rw [← hW3]
   clear hW3 sU
   generalize wr.heap.size = bx at hs3 ⊢
   have HL := BO (ay (ai (hs3.blk 0 rfl)))
   have HC := BO (t7.out x hmem W3 [_, _] hs3)
   have sU := BO hs3
   clear hs3 hmem
   have hent := wN.out
   unfold Enters at hent
   cases hpx : p x
   ·rw [hpx] at HC
    have up := BO (aO (q := fun x => !p x) HX.out (by simp [hpx]))
    clear hpx
    have hw2 : IntKind.i64.wrap ((i : Int) + 1) = (i : Int) + 1 := IntWalk.i64_in _ (by omega)
    have hin : i < n := by omega
    go_upto_region 9 with (first | (refine ag rfl _ _ rfl _ _ rfl _ HL.out ?_) | (refine HC.out.mono ?_; rintro e1 w1 ⟨rfl, hk1⟩; have sY := BO (sU.out.kept hk1); clear hk1 HC HL sU))
    clear hent
    have HL := BO (ay (ai (sY.out.blk 0 rfl)))
    go_wp2_with (first | (refine ag rfl _ _ rfl _ _ rfl _ HL.out ?_) | (refine ct ClmE.len ClmE.one rfl _ _ _ rfl tCl g _ i n cap rfl (by omega) x rfl ys sY.out.swap (by kernel_rfl) hin vr.out ?_; intro w5 hs5; have sV := BO hs5; clear hs5 sY HL))
    go_roundw
    case rel =>
     refine ⟨i + 1, j + 1, ys.set i x, by go_num, by go_num, by omega, by omega, by rw [List.length_set]; exact vr.out, ?_, ?_, sV.out.swap.drop⟩
     ·rw [up.out, ← wP.out, eo (by rw [vr.out]; exact hin)]
     ·rw [List.drop_set, if_pos (by omega), ← List.drop_drop, wQ.out, List.drop_drop]
    case measure => simp [intOf]; omega
   ·rw [hpx] at HC
    have up := BO (aQ (q := fun x => !p x) HX.out (by simp [hpx]))
    clear hpx
    go_wp2_with (first | (refine ag rfl _ _ rfl _ _ rfl _ HL.out ?_) | (refine HC.out.mono ?_; rintro e1 w1 ⟨rfl, hk1⟩; have sY := BO (sU.out.kept hk1); clear hk1 HC HL sU))
    clear hent
    go_roundw
    case rel => exact ⟨i, j + 1, ys, rfl, by go_num, by omega, by omega, vr.out, by rw [up.out, wP.out], by rw [← List.drop_drop, wQ.out, List.drop_drop], sY.out.drop⟩
    case measure => simp [intOf]; omega
  ·have hji : ¬ ((j : Int) < (n : Int)) := by omega
   have hin : i < n := by omega
   have hb0 : (i : Int) ≤ (n : Int) := by omega
   have hb1 : (n : Int) ≤ (cap : Int) := by omega
   have hb2 : (i : Int) ≤ (cap : Int) := by omega
   have hb3 : i < cap := by omega
   have hb4 : ¬ (cap = i) := by omega
   have hfin : ys.take i = xs.filter (fun x => !p x) := by rw [wP.out, List.take_of_length_le (by rw [HN.out]; omega)]
   have vE := BO hfin
   have tO := BO (show (xs.filter (fun x => !p x)).length = i by rw [← hfin, List.length_take, vr.out]; omega)
   obtain ⟨cur, h4, _, _, hcz, hct, _, _⟩ := sX.out.own_row
   have H4 := BO h4
   have wu := BO hct
   have uh := BO (sX.out.own 0 rfl).2.1
   clear h4 hct sX hfin
   go_wp2_with (show wpList _ _ _ (⟨none, .call _, _, _, _, _⟩ :: _) _ _; refine cP _ rfl _ 45 rfl tCl _ Tryz.underlying45 qW g _ (n - i) _ rfl cur H4.out (by omega) (by simp [size_zeroCells, Value.cells]; omega) (eq zone_Cl _) ?_; intro w5 h5; have H5 := BO h5; clear h5)
   go_ret
   refine ⟨_, rfl, ?_⟩
   rw [tO.out]
   refine H5.out.row_own (by omega) wM.out (by rw [ep _ _ _ (by simp [size_zeroCells, Value.cells]; omega)]; exact hcz) ?_ ?_
   ·unfold lay
    rw [List.append_assoc, List.take_append_of_le_length (by rw [List.length_take]; omega), List.take_of_length_le (by rw [List.length_take]; omega), ← vE.out, ← cF ClmE.len, ← wu.out, List.take_take]
    congr 1
    omega
   ·intro u hu
    rw [← vE.out, ← cF ClmE.len] at hu
    exact uh.out u (List.mem_of_mem_take hu)
end Go.Proofs.YtgljdkjepdknnaaGreatDoor
