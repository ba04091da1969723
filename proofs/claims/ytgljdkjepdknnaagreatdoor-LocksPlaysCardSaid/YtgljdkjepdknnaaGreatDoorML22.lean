/- Joined texts: value.Right. (printed by genlk.py) row.Check, row.Fits. (printed by genlk.py) Reasons in memory. IndexFunc over reasons. (printed by genlk.py) DeleteFunc over reasons. (printed by genlk.py) DeleteFunc over claims. (printed by genlk.py) -/
import Derived.Test.YtgljdkjepdknnaaGreatDoorML1
import Derived.Test.YtgljdkjepdknnaaGreatDoorML6
import Derived.Test.YtgljdkjepdknnaaGreatDoorML21
set_option maxHeartbeats 64000000
namespace Go.Proofs.YtgljdkjepdknnaaGreatDoor
open Go.ChangeShapes Go.WideShapes Go.ChangeAt Go.RowKit
set_option maxRecDepth 100000
set_option linter.unusedSimpArgs false
theorem jc (v : Val) (w : World) : Calls Tryz.prog 122 #[v.v] w fun e w' => e = .returned (.bool (bi v)) ∧ Kept (fun _ => False) w w' := by
 obtain ⟨t, n, s⟩ := v
 have hk : Kept (fun _ => False) w (w.alloc (.cells #[.bool t, .int .i64 n, .string s] 31)) := (Kept.refl _ _).alloc _
 have HK := Eh hk
 clear hk
 cases t
 ·have e : cx false n s false n ⟨#[]⟩ = bi ⟨false, n, s⟩ := by simp [cx, bi]
  have E := Eh e
  clear e
  go_enter Tryz.func122, Tryz.ntmps122
  go_wp2_with fail
  go_ret
  exact ⟨by rw [← E.out]; rfl, HK.out⟩
 ·by_cases h : n = 0
  ·subst h
   by_cases hs : (s.size : Int) ≤ 12
   ·have E := Eh (show bi ⟨true, 0, s⟩ = true by simp [bi]; omega)
    go_enter Tryz.func122, Tryz.ntmps122
    go_wp2_with fail
    go_ret
    exact ⟨by rw [E.out]; rfl, HK.out⟩
   ·have E := Eh (show bi ⟨true, 0, s⟩ = false by simp [bi]; omega)
    go_enter Tryz.func122, Tryz.ntmps122
    go_wp2_with fail
    go_ret
    exact ⟨by rw [E.out]; rfl, HK.out⟩
  ·have hv : cx true n s true 0 s = false := by simp [cx, h]
   have E := Eh (show bi ⟨true, n, s⟩ = false by simp [bi, h])
   go_enter Tryz.func122, Tryz.ntmps122
   go_wp2_with fail
   go_ret
   exact ⟨by rw [E.out]; rfl, HK.out⟩
abbrev tV : TypeId := 31
theorem gh {w : World} {g o N cap h : Nat} {keys : List Val} {x : Val} (hrd : Rd w 3 (.slice (some ⟨g, o, none⟩) N cap) N (keys.flatMap Val.cells)) (hx : keys[h]? = some x) :
  w.cell? ⟨g, o + h * 3, none⟩ = some (.bool x.t) ∧ w.cell? ⟨g, o + h * 3 + 1, none⟩ = some (.int .i64 x.n) ∧ w.cell? ⟨g, o + h * 3 + 2, none⟩ = some (.string x.s) := by
 have hlt := (List.getElem?_eq_some_iff.1 hx).1
 rcases hrd.2.2 with ⟨_, _, hv, _, _, _, hcell⟩
 cases hv
 rcases hcell with h0 | ⟨_, _, hg, hc⟩
 ·have := hrd.1
  rw [eP Val.len] at this
  omega
 cases hg
 have a0 := hc _ _ (bX Val.len keys h _ hx 0 _ rfl)
 have a1 := hc _ _ (bX Val.len keys h _ hx 1 _ rfl)
 have a2 := hc _ _ (bX Val.len keys h _ hx 2 _ rfl)
 rw [Nat.add_zero] at a0
 rw [← Nat.add_assoc] at a1 a2
 exact ⟨a0, a1, a2⟩
abbrev tB : TypeId := 4
abbrev tBs : TypeId := 25
abbrev dO : TypeId := 27
abbrev tTabs : TypeId := 28
def dX (b : Bool) : List Value := [.bool b]
theorem blen (b : Bool) : (dX b).length = 1 := rfl
theorem bone (b : Bool) : ∀ u ∈ dX b, u.oneCell' = true := by intro u hu; simp [dX] at hu; subst hu; rfl
abbrev du (w : World) (v : Value) (c : List Bool) : Prop := Rd w 1 v c.length (c.flatMap dX)
def gm (c : List Bool) : Bool := decide (1 ≤ c.length) && decide (c.length ≤ 4)
def chk (c : List Bool) : Int := if gm c then 0 else 1
def ep (c : List Bool) (r : List Val) (n : Nat) : Bool := ((r.zip c).take n).all fun p => decide (p.1.t = p.2) && bi p.1
def eS (c : List Bool) (r : List Val) : Bool := gm c && decide (r.length = c.length) && ep c r r.length
theorem fZ {w : World} {g o n c i : Nat} {x : Bool} {cs : List Bool} (h : Rd w 1 (.slice (some ⟨g, o, none⟩) n c) n (cs.flatMap dX)) (hi : cs[i]? = some x) : w.cell? ⟨g, o + i, none⟩ = some (.bool x) := by
 have hlt := (List.getElem?_eq_some_iff.1 hi).1
 rcases h.2.2 with ⟨_, _, hv, _, _, _, hcell⟩
 cases hv
 rcases hcell with h0 | ⟨_, _, hg, hc⟩
 ·have := h.1
  rw [eP blen] at this
  omega
 ·cases hg
  have := hc _ _ (bX blen cs i x hi 0 _ rfl)
  simpa using this
theorem iA {w : World} {ao : Option Addr} {N cap k : Nat} {xs : List Bool} {x : Bool} (h : Rd w 1 (.slice ao N cap) N (xs.flatMap dX)) (hx : xs[k]? = some x) (hl : xs.length = N) : ∃ g og, ao = some ⟨g, og, none⟩ := by
 have hlt := (List.getElem?_eq_some_iff.1 hx).1
 rcases h.2.2 with ⟨_, _, hv, _, _, _, hc⟩
 cases hv
 rcases hc with h0 | ⟨g, o, hg, _⟩
 ·omega
 ·exact ⟨g, o, hg⟩
theorem kC {w : World} {ao : Option Addr} {N cap k : Nat} {xs : List Val} {x : Val} (h : Rd w 3 (.slice ao N cap) N (xs.flatMap Val.cells)) (hx : xs[k]? = some x) (hl : xs.length = N) : ∃ g og, ao = some ⟨g, og, none⟩ := by
 have hlt := (List.getElem?_eq_some_iff.1 hx).1
 rcases h.2.2 with ⟨_, _, hv, _, _, _, hc⟩
 cases hv
 rcases hc with h0 | ⟨g, o, hg, _⟩
 ·omega
 ·exact ⟨g, o, hg⟩
theorem lm {c : List Bool} {r : List Val} {j : Nat} {x : Val} {b : Bool} (hx : r[j]? = some x) (hb : c[j]? = some b) : ep c r (j + 1) = (ep c r j && (decide (x.t = b) && bi x)) := by
 have hz : (r.zip c)[j]? = some (x, b) := by rw [List.getElem?_zip_eq_some]; exact ⟨hx, hb⟩
 unfold ep
 rw [List.take_add_one, hz, List.all_append]
 simp
theorem gr {c : List Bool} {r : List Val} {j n : Nat} (h : j ≤ n) (hf : ep c r j = false) : ep c r n = false := by
 unfold ep at *
 rw [List.all_eq_false] at *
 obtain ⟨p, hp, h2⟩ := hf
 exact ⟨p, (List.take_subset_take_left (r.zip c) h) hp, h2⟩
theorem jP {w : World} {cv : Value} {c : List Bool} (h : du w cv c) : Calls Tryz.prog 78 #[.agg #[cv]] w fun e w' => e = .returned (.int .i64 (chk c)) ∧ Kept (fun _ => False) w w' := by
 obtain ⟨_, m1, ao, cap, rfl, _⟩ := h
 have HK := Eh (show Kept (fun _ => False) w (w.alloc (.cells #[.slice ao c.length cap] dO)) from (Kept.refl _ _).alloc _)
 by_cases h1 : 1 ≤ c.length
 ·by_cases h2 : c.length ≤ 4
  ·have HM := Eh (show chk c = 0 by simp [chk, gm, h1, h2])
   have e1 : ¬ ((c.length : Int) < 1) := by omega
   have e2 : ¬ ((c.length : Int) > 4) := by omega
   go_enter Tryz.func78, Tryz.ntmps78
   go_wp2_with fail
   go_ret
   rw [HM.out]
   exact ⟨rfl, HK.out⟩
  ·have HM := Eh (show chk c = 1 by simp [chk, gm, h2])
   have e1 : ¬ ((c.length : Int) < 1) := by omega
   have e2 : ((c.length : Int) > 4) := by omega
   go_enter Tryz.func78, Tryz.ntmps78
   go_wp2_with fail
   go_ret
   rw [HM.out]
   exact ⟨rfl, HK.out⟩
 ·have HM := Eh (show chk c = 1 by simp [chk, gm, h1])
  have e1 : ((c.length : Int) < 1) := by omega
  go_enter Tryz.func78, Tryz.ntmps78
  go_wp2_with fail
  go_ret
  rw [HM.out]
  exact ⟨rfl, HK.out⟩
theorem qa {w : World} {cv rv : Value} {c : List Bool} {r : List Val} (hc : du w cv c) (hr : da w rv r) : Calls Tryz.prog 124 #[.agg #[cv], rv] w fun e w' => e = .returned (.bool (eS c r)) ∧ Kept (fun _ => False) w w' := by
 have hk1 : Kept (fun _ => False) w (w.alloc (.cells #[cv] dO)) := (Kept.refl _ _).alloc _
 have hb1 : (w.alloc (.cells #[cv] dO)).heap[w.heap.size]? = some (.cells #[cv] dO (0, 0)) := aC w _
 have HC := Eh (Rd.kept hc hk1 (fun _ _ h => h))
 have HR := Eh (Rd.kept hr hk1 (fun _ _ h => h))
 have vd := Eh hk1
 have vj := Eh hb1
 obtain ⟨-, m1, co, ccap, rfl, -⟩ := hc
 obtain ⟨-, m2, ro, rcap, rfl, -⟩ := hr
 clear hk1 hb1
 go_enter Tryz.func124, Tryz.ntmps124
 go_upto_region 1 with (fail)
 obtain ⟨W, hW⟩ : ∃ W, W = w.alloc (.cells #[.slice co c.length ccap] dO) := ⟨_, rfl⟩
 rw [← hW] at HC HR vd vj ⊢
 generalize w.heap.size = bt at vj ⊢
 clear hW
 obtain ⟨b0, bf⟩ := aK vj.out
 have zB := Eh (jP HC.out)
 cases hm : gm c
 ·have HM := Eh (show chk c = 1 by simp [chk, hm])
  have HF := Eh (show eS c r = false by simp [eS, hm])
  clear hm
  go_wp2_with ((go_at_call 78; refine zB.out.mono ?_; rw [HM.out]; rintro e1 w1 ⟨rfl, hk2⟩; have vp := Eh hk2; clear hk2 b0 bf))
  go_ret
  rw [HF.out]
  exact ⟨rfl, vd.out.trans vp.out (fun _ h => h.elim)⟩
 have HM := Eh (show chk c = 0 by simp [chk, hm])
 by_cases hl : r.length = c.length
 ·obtain ⟨N, hN⟩ : ∃ N, r.length = N := ⟨_, rfl⟩
  have HF := Eh (show eS c r = ep c r N by unfold eS; rw [hm, decide_eq_true hl, hN]; rfl)
  have HN := Eh hN
  have hcn : c.length = N := by omega
  have BE := Eh hcn
  rw [hcn] at HC zB vj b0 m1 ⊢
  rw [hN] at HR m2 ⊢
  unfold maxLen at m1 m2
  clear hm hl hN hcn
  go_upto_region 3 with ((go_at_call 78; refine zB.out.mono ?_; rw [HM.out]; rintro e1 w1 ⟨rfl, hk2⟩; have vp := Eh hk2; clear hk2 b0 bf; have hb1 := (vp.out.block _ (aH vj.out) (fun h => h)).trans vj.out; obtain ⟨b0, bf⟩ := aK hb1; have vm := Eh hb1; clear hb1))
  have wC := Eh (Rd.kept HC.out vp.out (fun _ _ h => h))
  have vZ := Eh (Rd.kept HR.out vp.out (fun _ _ h => h))
  have vD := Eh (vd.out.trans vp.out (fun _ h => h.elim))
  clear HC HR vj zB HM vd vp
  go_wp2_with fail
  clear b0 bf
  go_loopw [20] (fun idx wr => ∃ j : Nat, idx = .int .i64 j ∧ j ≤ N ∧ ep c r j = true ∧ Kept (fun _ => False) w1 wr) (fun idx _ => N - (intOf idx).toNat)
  case atStart => exact ⟨0, rfl, Nat.zero_le _, by simp [ep], Kept.refl _ _⟩
  case round =>
   obtain ⟨j, rfl, hj, hno, hkr⟩ := hrel
   by_cases hlt : j < N
   ·obtain ⟨x, hx⟩ : ∃ x, r[j]? = some x := ⟨r[j]'(by rw [HN.out]; exact hlt), List.getElem?_eq_getElem _⟩
    obtain ⟨b, hb⟩ : ∃ b, c[j]? = some b := ⟨c[j]'(by rw [BE.out]; exact hlt), List.getElem?_eq_getElem _⟩
    have hrr := Rd.kept vZ.out hkr (fun _ _ h => h)
    obtain ⟨rg, rog, rfl⟩ := kC hrr hx HN.out
    obtain ⟨cg, cog, rfl⟩ := iA wC.out hb BE.out
    obtain ⟨y0, y1, y2⟩ := gh hrr hx
    have hk3 : Kept (fun _ => False) wr (wr.alloc (.cells #[.bool x.t, .int .i64 x.n, .string x.s] tV)) := (Kept.refl _ _).alloc _
    have hb3 : (wr.alloc (.cells #[.bool x.t, .int .i64 x.n, .string x.s] tV)).heap[wr.heap.size]? = some (.cells #[.bool x.t, .int .i64 x.n, .string x.s] tV (0, 0)) := aC wr _
    have hk4 := hkr.trans hk3 (fun _ h => h.elim)
    have xj := Eh hb3
    have wy := Eh hk4
    have xd := Eh (lm hx hb)
    have vT := Eh hno
    have Bi := Eh hb
    have hib : (j : Int) < (N : Int) := by omega
    clear hx hb hrr hk3 hb3 hk4 hno hkr
    go_upto_region 6 with (fail)
    obtain ⟨W3, hW3⟩ : ∃ W3, W3 = wr.alloc (.cells #[.bool x.t, .int .i64 x.n, .string x.s] tV) := ⟨_, rfl⟩
    rw [← hW3] at xj wy ⊢
    generalize wr.heap.size = bk at xj ⊢
    clear hW3 y0 y1 y2
    obtain ⟨x0, x1, x2, xf⟩ := gG xj.out
    obtain ⟨b0, bf⟩ := aK ((wy.out.block _ (aH vm.out) (fun h => h)).trans vm.out)
    have hcc := fZ (Rd.kept wC.out wy.out (fun _ _ h => h)) Bi.out
    by_cases hxt : x.t = b
    ·subst hxt
     cases hv : bi x
     ·have HV := Eh hv
      have wu := Eh (show ep c r N = false from gr (show j + 1 ≤ N by omega) (by rw [xd.out, hv]; simp))
      clear hv
      refine ag [(0, false, 10), (1, false, 10), (2, false, 10), (3, false, 10), (4, false, 10), (5, false, 10), (6, false, 10), (7, false, 10), (8, false, 10), (9, false, 10), (10, true, 0), (11, false, 999), (12, false, 999)] (by kernel_rfl) (by kernel_rfl) ?_
      iterate 9 (refine af rfl rfl (fun K hK => ?_); go_simp; refine hK _ ?_; clear hK K)
      first | (refine aq rfl rfl ?_; simp only [Act.put, Ei, Ej, Ek, El, Em, En]) | (refine am rfl rfl (fun K hK => ?_); go_simp; refine hK _ ?_; clear hK K)
      refine al rfl ?_
      refine aw rfl (fun K hK => ?_)
      go_simp
      refine (jc x _).mono ?_
      rintro e4 w4 ⟨rfl, hk5⟩
      rw [HV.out]
      have wN := Eh (((vD.out.trans wy.out (fun _ h => h.elim)).trans ((Kept.refl (fun _ => False) W3).drew) (fun _ h => h.elim)).trans hk5 (fun _ h => h.elim))
      clear hk5 x0 x1 x2 xf b0 bf hcc
      refine hK _ _ ?_
      clear hK K
      refine wpList_nil ?_
      refine And.intro ?_ ?_
      ·go_simp
      first | (refine aq rfl rfl ?_; simp only [Act.put, Ei, Ej, Ek, El, Em, En]) | (refine am rfl rfl (fun K hK => ?_); go_simp; refine hK _ ?_; clear hK K)
      refine af rfl rfl (fun K hK => ?_); go_simp; refine hK _ ?_; clear hK K
      refine ar ?_
      go_wp2_with fail
      go_ret
      rw [HF.out, wu.out]
      exact ⟨rfl, wN.out⟩
     ·have HV := Eh hv
      have wu := Eh (show ep c r (j + 1) = true by rw [xd.out, hv, vT.out]; simp)
      clear hv
      refine ag [(0, false, 10), (1, false, 10), (2, false, 10), (3, false, 10), (4, false, 10), (5, false, 10), (6, false, 10), (7, false, 10), (8, false, 10), (9, false, 10), (10, true, 0), (11, false, 999), (12, false, 999)] (by kernel_rfl) (by kernel_rfl) ?_
      iterate 9 (refine af rfl rfl (fun K hK => ?_); go_simp; refine hK _ ?_; clear hK K)
      first | (refine aq rfl rfl ?_; simp only [Act.put, Ei, Ej, Ek, El, Em, En]) | (refine am rfl rfl (fun K hK => ?_); go_simp; refine hK _ ?_; clear hK K)
      refine al rfl ?_
      refine aw rfl (fun K hK => ?_)
      go_simp
      refine (jc x _).mono ?_
      rintro e4 w4 ⟨rfl, hk5⟩
      rw [HV.out]
      have wN := Eh ((wy.out.trans ((Kept.refl (fun _ => False) W3).drew) (fun _ h => h.elim)).trans hk5 (fun _ h => h.elim))
      clear hk5 x0 x1 x2 xf b0 bf hcc
      refine hK _ _ ?_
      clear hK K
      refine wpList_nil ?_
      refine And.intro ?_ ?_
      ·go_simp
      first | (refine aq rfl rfl ?_; simp only [Act.put, Ei, Ej, Ek, El, Em, En]) | (refine am rfl rfl (fun K hK => ?_); go_simp; refine hK _ ?_; clear hK K)
      refine af rfl rfl (fun K hK => ?_); go_simp; refine hK _ ?_; clear hK K
      refine ar ?_
      go_wp2_with fail
      go_roundw
      case rel => exact ⟨j + 1, by go_num, by omega, wu.out, wN.out⟩
      case measure => simp [intOf]; omega
    ·obtain rfl : b = !x.t := by cases b <;> cases h : x.t <;> simp_all
     have wu := Eh (show ep c r N = false from gr (show j + 1 ≤ N by omega) (by rw [xd.out]; simp))
     clear hxt
     refine ag [(0, false, 10), (1, false, 10), (2, false, 10), (3, false, 10), (4, false, 10), (5, false, 10), (6, false, 10), (7, false, 10), (8, false, 10), (9, false, 10), (10, true, 0), (11, false, 999), (12, false, 999)] (by kernel_rfl) (by kernel_rfl) ?_
     iterate 9 (refine af rfl rfl (fun K hK => ?_); go_simp; refine hK _ ?_; clear hK K)
     first | (refine aq rfl rfl ?_; simp only [Act.put, Ei, Ej, Ek, El, Em, En]) | (refine am rfl rfl (fun K hK => ?_); go_simp; refine hK _ ?_; clear hK K)
     refine al rfl ?_
     refine bO rfl ?_
     simp only [Act.put, Ei, Ej, Ek]
     refine wpList_nil ?_
     refine And.intro ?_ ?_
     ·go_simp
     first | (refine aq rfl rfl ?_; simp only [Act.put, Ei, Ej, Ek, El, Em, En]) | (refine am rfl rfl (fun K hK => ?_); go_simp; refine hK _ ?_; clear hK K)
     refine af rfl rfl (fun K hK => ?_); go_simp; refine hK _ ?_; clear hK K
     refine ar ?_
     have wN := Eh ((vD.out.trans wy.out (fun _ h => h.elim)).trans ((Kept.refl (fun _ => False) W3).drew) (fun _ h => h.elim))
     go_wp2_with fail
     go_ret
     rw [HF.out, wu.out]
     exact ⟨rfl, wN.out⟩
   ·obtain rfl : j = N := by omega
    have wu := Eh hno
    have Cu := Eh (vD.out.trans hkr (fun _ h => h.elim))
    clear hno hkr
    go_wp2_with fail
    go_ret
    rw [HF.out, wu.out]
    exact ⟨rfl, Cu.out⟩
 ·have HF := Eh (show eS c r = false by unfold eS; rw [hm, decide_eq_false hl]; rfl)
  have hl' : ¬ ((r.length : Int) = (c.length : Int)) := by omega
  clear hm hl
  go_wp2_with ((go_at_call 78; refine zB.out.mono ?_; rw [HM.out]; rintro e1 w1 ⟨rfl, hk2⟩; have vp := Eh hk2; clear hk2 b0 bf; obtain ⟨b0, bf⟩ := aK ((vp.out.block _ (aH vj.out) (fun h => h)).trans vj.out)))
  go_ret
  rw [HF.out]
  exact ⟨rfl, vd.out.trans vp.out (fun _ h => h.elim)⟩
abbrev tRs : TypeId := 125
abbrev tLk : TypeId := 77
structure RsnE where
 o : Int
 x : ClmE
 why : Int
def bE (e : RsnE) : List Value := [.int .i64 e.o, .int .i64 e.x.kind, .int .i64 e.x.table, .int .i64 e.x.mode, .bool e.x.key.t, .int .i64 e.x.key.n, .string e.x.key.s, .slice e.x.ia e.x.il e.x.ic, .int .i64 e.x.pr.op, .int .i64 e.x.pr.col, .bool e.x.pr.v.t, .int .i64 e.x.pr.v.n, .string e.x.pr.v.s, .bool e.x.pr.w.t, .int .i64 e.x.pr.w.n, .string e.x.pr.w.s, .slice e.x.pr.la e.x.pr.ln e.x.pr.lc, .int .u8 e.why]
abbrev js (e : RsnE) : Rsn := ⟨e.o, e.x.c, e.why⟩
abbrev OkW (D : PH) (e : RsnE) : Prop := ClOk D e.x
theorem kx (e : RsnE) : (bE e).length = 18 := rfl
theorem oneW (e : RsnE) : ∀ u ∈ bE e, u.oneCell' = true := by intro u hu; simp [bE] at hu; rcases hu with rfl | rfl | rfl | rfl | rfl | rfl | rfl | rfl | rfl | rfl | rfl | rfl | rfl | rfl | rfl | rfl | rfl | rfl <;> rfl
@[go_sem] theorem sizeW (e : RsnE) : (bE e).toArray.size = 18 := rfl
theorem rz {w : World} {g o : Nat} {e : RsnE} (h : w.rangeAt g o (bE e)) : (loadVar tRs ⟨g, o, none⟩).run Tryz.prog w = .ok (.agg (bE e).toArray) w := run_loadVar_mid w g o _ _ _ h Tryz.underlying125 rfl (by kernel_rfl)
theorem whyW {w : World} {g o : Nat} {e : RsnE} (h : w.rangeAt g o (bE e)) : w.cell? ⟨g, o, none⟩ = some (.int .i64 e.o) ∧ w.cell? ⟨g, o + 17, none⟩ = some (.int .u8 e.why) := ⟨h 0 _ rfl, h 17 _ rfl⟩
theorem ue {w : World} {b : Nat} {e : RsnE} {t : TypeId} {fr : Nat × Nat} (h : w.heap[b]? = some (.cells (bE e).toArray t fr)) : w.cell? ⟨b, 0, none⟩ = some (.int .i64 e.o) ∧ w.cell? ⟨b, 17, none⟩ = some (.int .u8 e.why) := by
 refine ⟨?_, ?_⟩ <;> simp [World.cell?, h, bE]
theorem uR {w : World} {b : Nat} {e : RsnE} {t : TypeId} {fr : Nat × Nat} (h : w.heap[b]? = some (.cells (bE e).toArray t fr)) : w.rangeAt b 1 e.x.cells := fun j v hv => by
 rw [cell_of_row w b (1 + j) _ t fr h]
 have hj : j < 16 := by have := (List.getElem?_eq_some_iff.1 hv).1; rwa [ClmE.len] at this
 rw [← hv]
 rw [show 1 + j = j + 1 by omega]
 simp only [List.getElem?_toArray, bE, List.getElem?_cons_succ]
 show (e.x.cells ++ [.int .u8 e.why])[j]? = _
 rw [List.getElem?_append_left (by rw [ClmE.len]; exact hj)]
def RepW (D : PH) (rs : List RsnE) (L : List Rsn) : Prop := rs.map js = L ∧ ∀ x ∈ rs, OkW D x
abbrev ou (v : Value) (rs : List RsnE) : HP := aI tRs 18 v rs.length (rs.flatMap bE)
theorem RepW.mono {D D' : PH} (le : PH.le D D') {rs : List RsnE} {L : List Rsn} (h : RepW D rs L) : RepW D' rs L := ⟨h.1, fun x hx => (h.2 x hx).mono le⟩
theorem se (p : Rsn → Bool) (rs : List RsnE) : cz (fun x => p (js x)) rs = cz p (rs.map js) := by
 unfold cz
 rw [List.findIdx?_map]
 rfl
def TblsAt (D : PH) (v : Value) (ts : List (List Bool)) : Prop := ∃ hs : List Value, hs.length = ts.length ∧ (∀ u ∈ hs, u.oneCell' = true) ∧ RdP D 1 v ts.length hs ∧ ∀ (i : Nat) (h : Value) (r : List Bool), hs[i]? = some h → ts[i]? = some r → RdP D 1 h r.length (r.flatMap dX)
def TblsRd (w : World) (v : Value) (ts : List (List Bool)) : Prop := ∃ hs : List Value, hs.length = ts.length ∧ Rd w 1 v ts.length hs ∧ ∀ (i : Nat) (h : Value) (r : List Bool), hs[i]? = some h → ts[i]? = some r → Rd w 1 h r.length (r.flatMap dX)
theorem TblsAt.mono {D D' : PH} (le : PH.le D D') {v : Value} {ts : List (List Bool)} (h : TblsAt D v ts) : TblsAt D' v ts := by
 obtain ⟨hs, h1, h2, h3, h4⟩ := h
 exact ⟨hs, h1, h2, h3.mono le, fun i u r a b => (h4 i u r a b).mono le⟩
theorem TblsAt.rd {B w : World} {D : PH} {l : List HP} (hs : Sat B D w l) {v : Value} {ts : List (List Bool)} (h : TblsAt D v ts) : TblsRd w v ts := by
 obtain ⟨us, h1, h2, h3, h4⟩ := h
 exact ⟨us, h1, h3.rd hs, fun i u r a b => (h4 i u r a b).rd hs⟩
theorem TblsRd.kept {w w' : World} (k : Kept (fun _ => False) w w') {v : Value} {ts : List (List Bool)} (h : TblsRd w v ts) : TblsRd w' v ts := by
 obtain ⟨hs, h1, h2, h3⟩ := h
 exact ⟨hs, h1, h2.kept k (fun _ _ h => h), fun i u r a b => (h3 i u r a b).kept k (fun _ _ h => h)⟩
abbrev lkb (L q : Nat) (tv : Value) (room : Int) (rv : Value) : HP := blk L #[.pointer (some ⟨q, 0, none⟩), tv, .int .i64 room, rv] tLk
def cd (D : PH) (L : Nat) (ts : List (List Bool)) (room : Int) (m : LkM) : HP := exP (fun x : (Nat × Value) × (Value × List RsnE) => TblsAt D x.1.2 ts ∧ RepW D x.2.2 m.why) (fun x => [lkb L x.1.1 x.1.2 room x.2.1, bZ D x.1.1 m.q, ou x.2.1 x.2.2])
section
variable {B w : World} {D D' : PH} {l : List HP} {L : Nat} {ts : List (List Bool)} {room : Int} {m : LkM}
theorem ch (h : Sat B D w (cd D' L ts room m :: l)) : ∃ (q : Nat) (tv rv : Value) (rs : List RsnE), TblsAt D' tv ts ∧ RepW D' rs m.why ∧ Sat B D w (lkb L q tv room rv :: bZ D' q m.q :: ou rv rs :: l) := by
 obtain ⟨⟨⟨q, tv⟩, rv, rs⟩, ⟨h1, h2⟩, h3⟩ := Sat.open_ex h
 exact ⟨q, tv, rv, rs, h1, h2, h3⟩
theorem bQ {q : Nat} {tv rv : Value} {rs : List RsnE} (h1 : TblsAt D' tv ts) (h2 : RepW D' rs m.why) (h : Sat B D w (lkb L q tv room rv :: bZ D' q m.q :: ou rv rs :: l)) : Sat B D w (cd D' L ts room m :: l) :=
 Sat.close_ex ((q, tv), rv, rs) ⟨h1, h2⟩ h
end
theorem kc {w : World} {v : Value} {xs : List (RsnE)} {F : Nat} {caps : Array Value} (p : RsnE → Bool) (hrd : Rd w 18 v xs.length (xs.flatMap bE)) (HF : ∀ x ∈ xs, PredF F caps w (bE x) (p x)) :
  Calls Tryz.prog 138 #[v, .func (.func F) #[] caps] w fun e w' => e = .returned (.int .i64 (cz p xs)) ∧ Kept (fun _ => False) w w' := by
 obtain ⟨_, hml, ao, cap, rfl, hnc, hcm, _⟩ := id hrd
 unfold maxLen at hml hcm
 have vk := Eh hrd
 have wu := Eh HF
 clear hrd HF
 obtain ⟨N, hN⟩ : ∃ N, xs.length = N := ⟨_, rfl⟩
 have HN := Eh hN
 rw [hN] at vk hml hnc ⊢
 clear hN
 go_enter Tryz.func138, Tryz.ntmps138
 go_wp2_with fail
 go_loopw [8] (fun i wr => ∃ j : Nat, i = .int .i64 j ∧ j ≤ N ∧ (∀ x ∈ xs.take j, p x = false) ∧ Kept (fun _ => False) w wr) (fun i _ => N - (intOf i).toNat)
 case atStart => exact ⟨0, rfl, by omega, fun x hx => by simp at hx, Kept.refl _ _⟩
 case round =>
  obtain ⟨j, rfl, hj, hp, hk⟩ := hrel
  have HP := Eh hp
  have HK := Eh hk
  clear hp hk
  by_cases hlt : j < N
  ·have hi : (j : Int) < (N : Int) := by omega
   obtain ⟨x, hx⟩ : ∃ x, xs[j]? = some x := ⟨xs[j]'(by rw [HN.out]; exact hlt), List.getElem?_eq_getElem _⟩
   obtain ⟨g, o, rfl, hrng⟩ := aF kx (vk.out.kept HK.out (fun _ _ h => h)) hx HN.out
   have HL := Eh (rz hrng)
   have HX := Eh hx
   obtain ⟨hent, hcall⟩ := wu.out x (List.mem_of_getElem? hx)
   unfold Enters at hent
   have HC := Eh (hcall wr HK.out)
   clear hx hrng hcall
   cases hpx : p x
   ·rw [hpx] at HC
    have wM := Eh hpx
    clear hpx
    go_wp2_with (first | (refine ai rfl _ _ rfl _ _ rfl _ HL.out ?_) | (refine HC.out.mono ?_; rintro e1 w1 ⟨rfl, hk1⟩; have vd := Eh (HK.out.trans hk1 (fun _ h => h.elim)); clear hk1 HC HL))
    go_roundw
    case rel => exact ⟨j + 1, by go_num, by omega, cX HP.out HX.out wM.out, vd.out⟩
    case measure => simp [intOf]; omega
   ·rw [hpx] at HC
    have wM := Eh hpx
    clear hpx
    go_wp2_with (first | (refine ai rfl _ _ rfl _ _ rfl _ HL.out ?_) | (refine HC.out.mono ?_; rintro e1 w1 ⟨rfl, hk1⟩; have vd := Eh (HK.out.trans hk1 (fun _ h => h.elim)); clear hk1 HC HL))
    go_ret
    exact ⟨by rw [fk HP.out HX.out wM.out]; rfl, vd.out⟩
  ·have hi : ¬ ((j : Int) < (N : Int)) := by omega
   have he : cz p xs = -1 := dJ (by have := HP.out; rwa [List.take_of_length_le (by rw [HN.out]; omega)] at this)
   have HE := Eh he
   clear he
   go_wp2_with fail
   go_ret
   exact ⟨by rw [HE.out]; rfl, HK.out⟩
theorem zone_W : ∀ u ∈ (Value.agg #[.int .i64 0, .int .i64 0, .int .i64 0, .int .i64 0, .bool false, .int .i64 0, .string ⟨#[]⟩, .slice none 0 0, .int .i64 0, .int .i64 0, .bool false, .int .i64 0, .string ⟨#[]⟩, .bool false, .int .i64 0, .string ⟨#[]⟩, .slice none 0 0, .int .u8 0]).cells.toList, u.oneCell' = true := by intro u hu; simp [Value.cells] at hu; rcases hu with rfl | rfl | rfl | rfl | rfl | rfl | rfl | rfl | rfl | rfl | rfl | rfl | rfl | rfl | rfl | rfl | rfl | rfl <;> rfl
theorem zeroV_W (w : World) : (zeroValue tRs).run Tryz.prog w = .ok (.agg #[.int .i64 0, .int .i64 0, .int .i64 0, .int .i64 0, .bool false, .int .i64 0, .string ⟨#[]⟩, .slice none 0 0, .int .i64 0, .int .i64 0, .bool false, .int .i64 0, .string ⟨#[]⟩, .bool false, .int .i64 0, .string ⟨#[]⟩, .slice none 0 0, .int .u8 0]) w := Tryz.zeroValue125 w
theorem jg {B w : World} {D : PH} {l : List HP} {v : Value} {n : Nat} {xs : List (RsnE)} {F : Nat} {caps : Array Value} (p : RsnE → Bool) (hn : xs.length = n) (hent : Enters Tryz.prog F) (hs : Sat B D w (aI tRs 18 v n (xs.flatMap bE) :: l))
  (HF : ∀ x ∈ xs, PredS B D l F caps (bE x) (p x)) :
  Calls Tryz.prog 89 #[v, .func (.func F) #[] caps] w fun e w' => ∃ v', e = .returned v' ∧ Sat B D w' (aI tRs 18 v' (xs.filter (fun x => !p x)).length ((xs.filter (fun x => !p x)).flatMap bE) :: l) := by
 have hle := (hs.own 0 rfl).le
 obtain ⟨ao, cap, rfl, hnc, hcm, _⟩ := (hs.own 0 rfl).rd.2.2
 have hcm' := hcm
 unfold maxLen at hle hcm
 have yh := Eh hcm'
 have HN := Eh hn
 have wn := Eh (kc p (by rw [hn]; exact (hs.own 0 rfl).rd) (fun x hx => ⟨hent, fun W hW => HF x hx W [_] (hs.kept hW)⟩))
 have HS := Eh hs
 have wu := Eh HF
 have zq := Eh hent
 clear hs HF hn hent hcm'
 by_cases hall : ∀ y ∈ xs, p y = false
 ·have hi := dJ hall
  rw [hi] at wn
  have hfil : xs.filter (fun x => !p x) = xs := List.filter_eq_self.2 (fun x hx => by simp [hall x hx])
  have zr := Eh hfil
  clear hall hi hfil
  go_enter Tryz.func89, Tryz.ntmps89
  go_wp2_with (go_at_call 138; refine wn.out.mono ?_; rintro e1 w1 ⟨rfl, hk1⟩; have uX := Eh (HS.out.kept hk1); clear hk1 HS wn)
  go_ret
  exact ⟨_, rfl, by rw [zr.out, HN.out]; exact uX.out⟩
 have hex : ∃ (m : Nat) (x : RsnE), xs[m]? = some x ∧ p x = true ∧ ∀ y ∈ xs.take m, p y = false := by
  cases hf : xs.findIdx? p with
  | none => exact absurd (List.findIdx?_eq_none_iff.1 hf) hall
  | some m =>
   obtain ⟨hlt, h1, h2⟩ := List.findIdx?_eq_some_iff_getElem.1 hf
   refine ⟨m, xs[m], List.getElem?_eq_getElem hlt, h1, fun y hy => ?_⟩
   obtain ⟨i, hi, rfl⟩ := List.mem_take_iff_getElem.1 hy
   have := h2 i (by omega)
   simpa using this
 obtain ⟨m, x0, hx0, hpx0, hbef⟩ := hex
 have hi := fk hbef hx0 hpx0
 rw [hi] at wn
 have hm : m < n := by have := (List.getElem?_eq_some_iff.1 hx0).1; rw [HN.out] at this; exact this
 have hfm : (xs.take m).filter (fun x => !p x) = xs.take m := List.filter_eq_self.2 (fun x hx => by simp [hbef x hx])
 have hf0 : (xs.take (m + 1)).filter (fun x => !p x) = xs.take m := by rw [aW (q := fun x => !p x) hx0 (by simp [hpx0]), hfm]
 have Bq := Eh hf0
 clear hall hi hbef hx0 hpx0 hfm hf0
 have hw1 : IntKind.i64.wrap ((m : Int) + 1) = (m : Int) + 1 := IntWalk.i64_in _ (by omega)
 have hq1 : ((m : Int) == -1) = false := by simp
 obtain ⟨g, rfl⟩ : ∃ g, ao = some ⟨g, 0, none⟩ := by
  rcases (HS.out.own 0 rfl).2.2 with ⟨h1, h2⟩ | ⟨g, c2, cur, h1, _⟩
  ·omega
  ·cases h1; exact ⟨g, rfl⟩
 go_enter Tryz.func89, Tryz.ntmps89
 go_wp2_with (go_at_call 138; refine wn.out.mono ?_; rintro e1 w1 ⟨rfl, hk1⟩; have uX := Eh (HS.out.kept hk1); clear hk1 HS wn)
 clear hw1 hq1
 go_loopw [5, 6] (fun ki ji wr => ∃ (i j : Nat) (ys : List (RsnE)), ki = .int .i64 i ∧ ji = .int .i64 j ∧ i < j ∧ j ≤ n ∧ ys.length = n ∧ ys.take i = (xs.take j).filter (fun x => !p x) ∧ ys.drop j = xs.drop j ∧ Sat B D wr (aI tRs 18 (.slice (some ⟨g, 0, none⟩) n cap) n (ys.flatMap bE) :: l)) (fun _ ji _ => n - (intOf ji).toNat)
 case atStart => exact ⟨m, m + 1, xs, rfl, by go_num, by omega, by omega, HN.out, Bq.out.symm, rfl, uX.out⟩
 case round =>
  obtain ⟨i, j, ys, rfl, rfl, hij, hj, hyl, hyt, hyd, hs2⟩ := hrel
  have xW := Eh hyl
  have zt := Eh hyt
  have zu := Eh hyd
  have vg := Eh hs2
  clear hyl hyt hyd hs2 uX
  by_cases hlt : j < n
  ·have hji : (j : Int) < (n : Int) := by omega
   obtain ⟨x, hx⟩ : ∃ x, xs[j]? = some x := ⟨xs[j]'(by rw [HN.out]; exact hlt), List.getElem?_eq_getElem _⟩
   have hyx : ys[j]? = some x := by
    have h1 := congrArg (fun L => L[0]?) zu.out
    simp only [List.getElem?_drop, Nat.add_zero] at h1
    rw [h1, hx]
   obtain ⟨g', o', hg', hrng⟩ := aF kx (vg.out.own 0 rfl).rd hyx xW.out
   obtain ⟨rfl, rfl⟩ : g = g' ∧ 0 = o' := by cases hg'; exact ⟨rfl, rfl⟩
   rw [Nat.zero_add] at hrng
   have HL := Eh (rz hrng)
   clear hg' hrng hyx
   have HX := Eh hx
   have hmem := List.mem_of_getElem? hx
   have uY := Eh (vg.out.alloc (bE x).toArray tRs)
   clear hx
   go_upto_region 8 with (first | (refine ai rfl _ _ rfl _ _ rfl _ HL.out ?_) | (refine ax rfl _ _ _ rfl (bE x) _ _ rfl rfl (by kernel_rfl) rfl (oneW x) ?_))
   clear HL vg
   obtain ⟨W3, hW3, hs3⟩ := Sat.hide uY.out
   rw [← hW3]
   clear hW3 uY
   generalize wr.heap.size = bx at hs3 ⊢
   have HL := Eh (rz (ak (hs3.blk 0 rfl)))
   have HC := Eh (wu.out x hmem W3 [_, _] hs3)
   have uY := Eh hs3
   clear hs3 hmem
   have hent := zq.out
   unfold Enters at hent
   cases hpx : p x
   ·rw [hpx] at HC
    have wM := Eh (aR (q := fun x => !p x) HX.out (by simp [hpx]))
    clear hpx
    have hw2 : IntKind.i64.wrap ((i : Int) + 1) = (i : Int) + 1 := IntWalk.i64_in _ (by omega)
    have hin : i < n := by omega
    go_upto_region 9 with (first | (refine ai rfl _ _ rfl _ _ rfl _ HL.out ?_) | (refine HC.out.mono ?_; rintro e1 w1 ⟨rfl, hk1⟩; have vh := Eh (uY.out.kept hk1); clear hk1 HC HL uY))
    clear hent
    have HL := Eh (rz (ak (vh.out.blk 0 rfl)))
    go_wp2_with (first | (refine ai rfl _ _ rfl _ _ rfl _ HL.out ?_) | (refine cF kx oneW rfl _ _ _ rfl tRs g _ i n cap rfl (by omega) x rfl ys vh.out.swap (by kernel_rfl) hin xW.out ?_; intro w5 hs5; have uZ := Eh hs5; clear hs5 vh HL))
    go_roundw
    case rel =>
     refine ⟨i + 1, j + 1, ys.set i x, by go_num, by go_num, by omega, by omega, by rw [List.length_set]; exact xW.out, ?_, ?_, uZ.out.swap.drop⟩
     ·rw [wM.out, ← zt.out, eO (by rw [xW.out]; exact hin)]
     ·rw [List.drop_set, if_pos (by omega), ← List.drop_drop, zu.out, List.drop_drop]
    case measure => simp [intOf]; omega
   ·rw [hpx] at HC
    have wM := Eh (aW (q := fun x => !p x) HX.out (by simp [hpx]))
    clear hpx
    go_wp2_with (first | (refine ai rfl _ _ rfl _ _ rfl _ HL.out ?_) | (refine HC.out.mono ?_; rintro e1 w1 ⟨rfl, hk1⟩; have vh := Eh (uY.out.kept hk1); clear hk1 HC HL uY))
    clear hent
    go_roundw
    case rel => exact ⟨i, j + 1, ys, rfl, by go_num, by omega, by omega, xW.out, by rw [wM.out, zt.out], by rw [← List.drop_drop, zu.out, List.drop_drop], vh.out.drop⟩
    case measure => simp [intOf]; omega
  ·have hji : ¬ ((j : Int) < (n : Int)) := by omega
   have hin : i < n := by omega
   have hb0 : (i : Int) ≤ (n : Int) := by omega
   have hb1 : (n : Int) ≤ (cap : Int) := by omega
   have hb2 : (i : Int) ≤ (cap : Int) := by omega
   have hb3 : i < cap := by omega
   have hb4 : ¬ (cap = i) := by omega
   have hfin : ys.take i = xs.filter (fun x => !p x) := by rw [zt.out, List.take_of_length_le (by rw [HN.out]; omega)]
   have yo := Eh hfin
   have wi := Eh (show (xs.filter (fun x => !p x)).length = i by rw [← hfin, List.length_take, xW.out]; omega)
   obtain ⟨cur, h4, _, _, hcz, hct, _, _⟩ := vg.out.own_row
   have H4 := Eh h4
   have yW := Eh hct
   have wD := Eh (vg.out.own 0 rfl).2.1
   clear h4 hct vg hfin
   go_wp2_with (show wpList _ _ _ (⟨none, .call _, _, _, _, _⟩ :: _) _ _; refine de _ rfl _ 75 rfl tRs _ Tryz.underlying75 zeroV_W g _ (n - i) _ rfl cur H4.out (by omega) (by simp [size_zeroCells, Value.cells]; omega) (eN zone_W _) ?_; intro w5 h5; have H5 := Eh h5; clear h5)
   go_ret
   refine ⟨_, rfl, ?_⟩
   rw [wi.out]
   refine H5.out.row_own (by omega) yh.out (by rw [eM _ _ _ (by simp [size_zeroCells, Value.cells]; omega)]; exact hcz) ?_ ?_
   ·unfold lay
    rw [List.append_assoc, List.take_append_of_le_length (by rw [List.length_take]; omega), List.take_of_length_le (by rw [List.length_take]; omega), ← yo.out, ← cQ kx, ← yW.out, List.take_take]
    congr 1
    omega
   ·intro u hu
    rw [← yo.out, ← cQ kx] at hu
    exact wD.out u (List.mem_of_mem_take hu)
theorem zone_Cl : ∀ u ∈ (Value.agg #[.int .i64 0, .int .i64 0, .int .i64 0, .bool false, .int .i64 0, .string ⟨#[]⟩, .slice none 0 0, .int .i64 0, .int .i64 0, .bool false, .int .i64 0, .string ⟨#[]⟩, .bool false, .int .i64 0, .string ⟨#[]⟩, .slice none 0 0]).cells.toList, u.oneCell' = true := by intro u hu; simp [Value.cells] at hu; rcases hu with rfl | rfl | rfl | rfl | rfl | rfl | rfl | rfl | rfl | rfl | rfl | rfl | rfl | rfl | rfl | rfl <;> rfl
theorem tm (w : World) : (zeroValue tCl).run Tryz.prog w = .ok (.agg #[.int .i64 0, .int .i64 0, .int .i64 0, .bool false, .int .i64 0, .string ⟨#[]⟩, .slice none 0 0, .int .i64 0, .int .i64 0, .bool false, .int .i64 0, .string ⟨#[]⟩, .bool false, .int .i64 0, .string ⟨#[]⟩, .slice none 0 0]) w := Tryz.zeroValue37 w
theorem l4 {B w : World} {D : PH} {l : List HP} {v : Value} {n : Nat} {xs : List (ClmE)} {F : Nat} {caps : Array Value} (p : ClmE → Bool) (hn : xs.length = n) (hent : Enters Tryz.prog F) (hs : Sat B D w (aI tCl 16 v n (xs.flatMap ClmE.cells) :: l))
  (HF : ∀ x ∈ xs, PredS B D l F caps (ClmE.cells x) (p x)) :
  Calls Tryz.prog 93 #[v, .func (.func F) #[] caps] w fun e w' => ∃ v', e = .returned v' ∧ Sat B D w' (aI tCl 16 v' (xs.filter (fun x => !p x)).length ((xs.filter (fun x => !p x)).flatMap ClmE.cells) :: l) := by
 have hle := (hs.own 0 rfl).le
 obtain ⟨ao, cap, rfl, hnc, hcm, _⟩ := (hs.own 0 rfl).rd.2.2
 have hcm' := hcm
 unfold maxLen at hle hcm
 have yh := Eh hcm'
 have HN := Eh hn
 have wn := Eh (i8 p (by rw [hn]; exact (hs.own 0 rfl).rd) (fun x hx => ⟨hent, fun W hW => HF x hx W [_] (hs.kept hW)⟩))
 have HS := Eh hs
 have wu := Eh HF
 have zq := Eh hent
 clear hs HF hn hent hcm'
 by_cases hall : ∀ y ∈ xs, p y = false
 ·have hi := dJ hall
  rw [hi] at wn
  have hfil : xs.filter (fun x => !p x) = xs := List.filter_eq_self.2 (fun x hx => by simp [hall x hx])
  have zr := Eh hfil
  clear hall hi hfil
  go_enter Tryz.func93, Tryz.ntmps93
  go_wp2_with (go_at_call 130; refine wn.out.mono ?_; rintro e1 w1 ⟨rfl, hk1⟩; have uX := Eh (HS.out.kept hk1); clear hk1 HS wn)
  go_ret
  exact ⟨_, rfl, by rw [zr.out, HN.out]; exact uX.out⟩
 have hex : ∃ (m : Nat) (x : ClmE), xs[m]? = some x ∧ p x = true ∧ ∀ y ∈ xs.take m, p y = false := by
  cases hf : xs.findIdx? p with
  | none => exact absurd (List.findIdx?_eq_none_iff.1 hf) hall
  | some m =>
   obtain ⟨hlt, h1, h2⟩ := List.findIdx?_eq_some_iff_getElem.1 hf
   refine ⟨m, xs[m], List.getElem?_eq_getElem hlt, h1, fun y hy => ?_⟩
   obtain ⟨i, hi, rfl⟩ := List.mem_take_iff_getElem.1 hy
   have := h2 i (by omega)
   simpa using this
 obtain ⟨m, x0, hx0, hpx0, hbef⟩ := hex
 have hi := fk hbef hx0 hpx0
 rw [hi] at wn
 have hm : m < n := by have := (List.getElem?_eq_some_iff.1 hx0).1; rw [HN.out] at this; exact this
 have hfm : (xs.take m).filter (fun x => !p x) = xs.take m := List.filter_eq_self.2 (fun x hx => by simp [hbef x hx])
 have hf0 : (xs.take (m + 1)).filter (fun x => !p x) = xs.take m := by rw [aW (q := fun x => !p x) hx0 (by simp [hpx0]), hfm]
 have Bq := Eh hf0
 clear hall hi hbef hx0 hpx0 hfm hf0
 have hw1 : IntKind.i64.wrap ((m : Int) + 1) = (m : Int) + 1 := IntWalk.i64_in _ (by omega)
 have hq1 : ((m : Int) == -1) = false := by simp
 obtain ⟨g, rfl⟩ : ∃ g, ao = some ⟨g, 0, none⟩ := by
  rcases (HS.out.own 0 rfl).2.2 with ⟨h1, h2⟩ | ⟨g, c2, cur, h1, _⟩
  ·omega
  ·cases h1; exact ⟨g, rfl⟩
 go_enter Tryz.func93, Tryz.ntmps93
 go_wp2_with (go_at_call 130; refine wn.out.mono ?_; rintro e1 w1 ⟨rfl, hk1⟩; have uX := Eh (HS.out.kept hk1); clear hk1 HS wn)
 clear hw1 hq1
 go_loopw [5, 6] (fun ki ji wr => ∃ (i j : Nat) (ys : List (ClmE)), ki = .int .i64 i ∧ ji = .int .i64 j ∧ i < j ∧ j ≤ n ∧ ys.length = n ∧ ys.take i = (xs.take j).filter (fun x => !p x) ∧ ys.drop j = xs.drop j ∧ Sat B D wr (aI tCl 16 (.slice (some ⟨g, 0, none⟩) n cap) n (ys.flatMap ClmE.cells) :: l)) (fun _ ji _ => n - (intOf ji).toNat)
 case atStart => exact ⟨m, m + 1, xs, rfl, by go_num, by omega, by omega, HN.out, Bq.out.symm, rfl, uX.out⟩
 case round =>
  obtain ⟨i, j, ys, rfl, rfl, hij, hj, hyl, hyt, hyd, hs2⟩ := hrel
  have xW := Eh hyl
  have zt := Eh hyt
  have zu := Eh hyd
  have vg := Eh hs2
  clear hyl hyt hyd hs2 uX
  by_cases hlt : j < n
  ·have hji : (j : Int) < (n : Int) := by omega
   obtain ⟨x, hx⟩ : ∃ x, xs[j]? = some x := ⟨xs[j]'(by rw [HN.out]; exact hlt), List.getElem?_eq_getElem _⟩
   have hyx : ys[j]? = some x := by
    have h1 := congrArg (fun L => L[0]?) zu.out
    simp only [List.getElem?_drop, Nat.add_zero] at h1
    rw [h1, hx]
   obtain ⟨g', o', hg', hrng⟩ := aF ClmE.len (vg.out.own 0 rfl).rd hyx xW.out
   obtain ⟨rfl, rfl⟩ : g = g' ∧ 0 = o' := by cases hg'; exact ⟨rfl, rfl⟩
   rw [Nat.zero_add] at hrng
   have HL := Eh (az hrng)
   clear hg' hrng hyx
   have HX := Eh hx
   have hmem := List.mem_of_getElem? hx
   have uY := Eh (vg.out.alloc (ClmE.cells x).toArray tCl)
   clear hx
   go_upto_region 8 with (first | (refine ai rfl _ _ rfl _ _ rfl _ HL.out ?_) | (refine ax rfl _ _ _ rfl (ClmE.cells x) _ _ rfl rfl (by kernel_rfl) rfl (ClmE.one x) ?_))
   clear HL vg
   obtain ⟨W3, hW3, hs3⟩ := Sat.hide uY.out
   rw [← hW3]
   clear hW3 uY
   generalize wr.heap.size = bx at hs3 ⊢
   have HL := Eh (az (ak (hs3.blk 0 rfl)))
   have HC := Eh (wu.out x hmem W3 [_, _] hs3)
   have uY := Eh hs3
   clear hs3 hmem
   have hent := zq.out
   unfold Enters at hent
   cases hpx : p x
   ·rw [hpx] at HC
    have wM := Eh (aR (q := fun x => !p x) HX.out (by simp [hpx]))
    clear hpx
    have hw2 : IntKind.i64.wrap ((i : Int) + 1) = (i : Int) + 1 := IntWalk.i64_in _ (by omega)
    have hin : i < n := by omega
    go_upto_region 9 with (first | (refine ai rfl _ _ rfl _ _ rfl _ HL.out ?_) | (refine HC.out.mono ?_; rintro e1 w1 ⟨rfl, hk1⟩; have vh := Eh (uY.out.kept hk1); clear hk1 HC HL uY))
    clear hent
    have HL := Eh (az (ak (vh.out.blk 0 rfl)))
    go_wp2_with (first | (refine ai rfl _ _ rfl _ _ rfl _ HL.out ?_) | (refine cF ClmE.len ClmE.one rfl _ _ _ rfl tCl g _ i n cap rfl (by omega) x rfl ys vh.out.swap (by kernel_rfl) hin xW.out ?_; intro w5 hs5; have uZ := Eh hs5; clear hs5 vh HL))
    go_roundw
    case rel =>
     refine ⟨i + 1, j + 1, ys.set i x, by go_num, by go_num, by omega, by omega, by rw [List.length_set]; exact xW.out, ?_, ?_, uZ.out.swap.drop⟩
     ·rw [wM.out, ← zt.out, eO (by rw [xW.out]; exact hin)]
     ·rw [List.drop_set, if_pos (by omega), ← List.drop_drop, zu.out, List.drop_drop]
    case measure => simp [intOf]; omega
   ·rw [hpx] at HC
    have wM := Eh (aW (q := fun x => !p x) HX.out (by simp [hpx]))
    clear hpx
    go_wp2_with (first | (refine ai rfl _ _ rfl _ _ rfl _ HL.out ?_) | (refine HC.out.mono ?_; rintro e1 w1 ⟨rfl, hk1⟩; have vh := Eh (uY.out.kept hk1); clear hk1 HC HL uY))
    clear hent
    go_roundw
    case rel => exact ⟨i, j + 1, ys, rfl, by go_num, by omega, by omega, xW.out, by rw [wM.out, zt.out], by rw [← List.drop_drop, zu.out, List.drop_drop], vh.out.drop⟩
    case measure => simp [intOf]; omega
  ·have hji : ¬ ((j : Int) < (n : Int)) := by omega
   have hin : i < n := by omega
   have hb0 : (i : Int) ≤ (n : Int) := by omega
   have hb1 : (n : Int) ≤ (cap : Int) := by omega
   have hb2 : (i : Int) ≤ (cap : Int) := by omega
   have hb3 : i < cap := by omega
   have hb4 : ¬ (cap = i) := by omega
   have hfin : ys.take i = xs.filter (fun x => !p x) := by rw [zt.out, List.take_of_length_le (by rw [HN.out]; omega)]
   have yo := Eh hfin
   have wi := Eh (show (xs.filter (fun x => !p x)).length = i by rw [← hfin, List.length_take, xW.out]; omega)
   obtain ⟨cur, h4, _, _, hcz, hct, _, _⟩ := vg.out.own_row
   have H4 := Eh h4
   have yW := Eh hct
   have wD := Eh (vg.out.own 0 rfl).2.1
   clear h4 hct vg hfin
   go_wp2_with (show wpList _ _ _ (⟨none, .call _, _, _, _, _⟩ :: _) _ _; refine de _ rfl _ 45 rfl tCl _ Tryz.underlying45 tm g _ (n - i) _ rfl cur H4.out (by omega) (by simp [size_zeroCells, Value.cells]; omega) (eN zone_Cl _) ?_; intro w5 h5; have H5 := Eh h5; clear h5)
   go_ret
   refine ⟨_, rfl, ?_⟩
   rw [wi.out]
   refine H5.out.row_own (by omega) yh.out (by rw [eM _ _ _ (by simp [size_zeroCells, Value.cells]; omega)]; exact hcz) ?_ ?_
   ·unfold lay
    rw [List.append_assoc, List.take_append_of_le_length (by rw [List.length_take]; omega), List.take_of_length_le (by rw [List.length_take]; omega), ← yo.out, ← cQ ClmE.len, ← yW.out, List.take_take]
    congr 1
    omega
   ·intro u hu
    rw [← yo.out, ← cQ ClmE.len] at hu
    exact wD.out u (List.mem_of_mem_take hu)
end Go.Proofs.YtgljdkjepdknnaaGreatDoor
