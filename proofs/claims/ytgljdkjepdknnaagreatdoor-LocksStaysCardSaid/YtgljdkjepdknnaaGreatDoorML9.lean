/- Whether a predicate holds of a row (pred.Holds). (printed by genpredh.py) -/
import Derived.Test.YtgljdkjepdknnaaGreatDoorML8
set_option maxHeartbeats 64000000
namespace Go.Proofs.YtgljdkjepdknnaaGreatDoor
open Go.ChangeShapes Go.WideShapes Go.ChangeAt Go.RowKit
set_option maxRecDepth 100000
set_option linter.unusedSimpArgs false
@[go_sem] theorem tH {P : Program} (w : World) (a : Addr) (f : Fn) (x y : Array Value) (m : Mode) : (store a (.func f x y) m).run P w = stored P w a (.func f x y) m := l5 w a _ m rfl
def HoldsC (w : World) (rv : Value) (e : PredE) (p : Bool) : Prop := ∀ W, Kept (fun _ => False) w W → Calls Tryz.prog 160 #[.agg e.cells.toArray, rv] W fun r W' => r = .returned (.bool p) ∧ Kept (fun _ => False) W W'
theorem HoldsC.kept {w w' : World} {rv : Value} {e : PredE} {p : Bool} (h : HoldsC w rv e p) (k : Kept (fun _ => False) w w') : HoldsC w' rv e p := fun W hW => h W (k.trans hW (fun _ h => h.elim))
theorem j5 {w : World} {b : Nat} {rv : Value} {t : TypeId} {e : PredE} {p : Bool} (hb : w.heap[b]? = some (.cells #[rv] t (0, 0))) (h : HoldsC w rv e p) :
  Calls Tryz.prog 188 #[.agg e.cells.toArray, .pointer (some ⟨b, 0, none⟩)] w fun r w' => r = .returned (.bool p) ∧ Kept (fun _ => False) w w' := by
 obtain ⟨W1, hW1, hk1, hbx, hb1⟩ := cm hb e.cells.toArray tPr
 have uW := Eh hW1
 have vd := Eh hk1
 have HL := Eh (bD (ak hbx))
 have HC := Eh (h W1 hk1)
 obtain ⟨c0, _⟩ := aK hb1
 clear hb hW1 hk1 hbx hb1 h
 go_enter Tryz.func188, Tryz.ntmps188
 go_upto_region 1 with fail
 rw [← uW.out]
 clear uW
 generalize w.heap.size = bx at HL ⊢
 go_wp2_with (first | (refine ai rfl _ _ rfl _ _ rfl _ HL.out ?_) | (go_at_call 160; refine HC.out.mono ?_; rintro e1 w1 ⟨rfl, hk2⟩; have vp := Eh (vd.out.trans hk2 (fun _ h => h.elim)); clear hk2 HC c0))
 go_ret
 exact ⟨rfl, vp.out⟩
theorem holds1F {w : World} {b : Nat} {rv : Value} {t : TypeId} {e : PredE} {p : Bool} (hb : w.heap[b]? = some (.cells #[rv] t (0, 0))) (h : HoldsC w rv e p) : PredF 188 #[.pointer (some ⟨b, 0, none⟩)] w e.cells p :=
 ⟨enters_of Tryz.func188 (by kernel_rfl) rfl, fun W hW => j5 (aB hW hb) (h.kept hW)⟩
theorem holds2F {w : World} {b b5 : Nat} {rv : Value} {t t5 : TypeId} {e : PredE} {p : Bool} (hb : w.heap[b]? = some (.cells #[rv] t (0, 0))) (hb5 : w.heap[b5]? = some (.cells #[.func (.func 188) #[] #[.pointer (some ⟨b, 0, none⟩)]] t5 (0, 0))) (h : HoldsC w rv e p) : PredF 191 #[.pointer (some ⟨b5, 0, none⟩)] w e.cells (!p) := by
 refine ⟨enters_of Tryz.func191 (by kernel_rfl) rfl, fun W hW => ?_⟩
 obtain ⟨W1, hW1, hk1, hbx, hb1⟩ := cm (aB hW hb) e.cells.toArray tPr
 have hb51 := aB hk1 (aB hW hb5)
 have uW := Eh hW1
 have vd := Eh hk1
 have HL := Eh (bD (ak hbx))
 have HC := Eh (j5 hb1 ((h.kept hW).kept hk1))
 obtain ⟨c0, _⟩ := aK hb51
 clear hb hb5 hW hW1 hk1 hbx hb1 hb51 h
 show Calls Tryz.prog 191 #[.agg e.cells.toArray, .pointer (some ⟨b5, 0, none⟩)] W _
 go_enter Tryz.func191, Tryz.ntmps191
 go_upto_region 1 with fail
 rw [← uW.out]
 clear uW
 generalize W.heap.size = bx at HL ⊢
 go_wp2_with (first | (refine ai rfl _ _ rfl _ _ rfl _ HL.out ?_) | (go_at_call 188; refine HC.out.mono ?_; rintro e1 w1 ⟨rfl, hk2⟩; have vp := Eh (vd.out.trans hk2 (fun _ h => h.elim)); clear hk2 HC c0))
 go_ret
 exact ⟨rfl, vp.out⟩
theorem nB : ∀ (p : PredT) (x : PredE) (w : World) (rv : Value) (r : List Val), x.p = p → PredsRd w (.slice x.la x.ln x.lc) x.subs → da w rv r →
  Calls Tryz.prog 160 #[.agg x.cells.toArray, rv] w fun e w' => e = .returned (.bool (x.p.holds r)) ∧ Kept (fun _ => False) w w' := by
 refine PredT.ind fun op col v w0 l ih x w rv r hx h1 h2 => ?_
 have hl : x.subs = l := by unfold PredE.p at hx; cases hx; rfl
 obtain ⟨ra, rn, rc, rfl⟩ : ∃ a n c, rv = .slice a n c := by obtain ⟨_, _, a, c, h, _⟩ := h2; exact ⟨a, _, c, h⟩
 obtain ⟨W1, hW1, hk1, hb1, hb2, hb3⟩ := ti w x.cells.toArray #[.slice ra rn rc] #[.func (.func 188) #[] #[.pointer (some ⟨w.heap.size + 1, 0, none⟩)]] tPr 91 198
 obtain ⟨es, he, hsub, hes⟩ : ∃ es : List PredE, Rd W1 9 (.slice x.la x.ln x.lc) es.length (es.flatMap PredE.cells) ∧ x.subs = es.map PredE.p ∧ ∀ e ∈ es, HoldsC W1 (.slice ra rn rc) e (e.p.holds r) := by
  have k1 := h1.kept hk1
  have hr1 := h2.kept hk1 (fun _ _ h => h)
  generalize hxs : x.subs = xs at k1 hl
  cases k1 with
  | mk _ es he hes =>
   refine ⟨es, he, rfl, fun e hee W hW => ?_⟩
   exact ih e.p (by rw [← hl]; exact List.mem_map.2 ⟨e, hee, rfl⟩) e W _ r rfl ((hes e hee).kept hW) (hr1.kept hW (fun _ _ h => h))
 have HP := Eh (show x.p.holds r = _ from PredT.holds_eq x.op x.col x.v x.w x.subs r)
 rw [hsub] at HP
 have uW := Eh hW1
 have vd := Eh hk1
 have vj := Eh hb1
 have vm := Eh hb2
 have xj := Eh hb3
 have HE := Eh he
 have yy := Eh hes
 have wL := Eh (h2.kept hk1 (fun _ _ h => h))
 have hln : x.ln = es.length := by obtain ⟨_, _, _, _, h, _⟩ := he; exact (Value.slice.inj h).2.1
 have hle : es.length ≤ 9223372036854775807 := by have := he.2.1; unfold maxLen at this; omega
 clear h1 h2 hW1 hk1 hb1 hb2 hb3 hx hl ih he hes hsub
 by_cases o1 : x.op = 1
 ·have HR := Eh (show x.p.holds r = true by rw [HP.out, if_pos o1])
  have q1 : (x.op == 1) = true := by simpa using o1
  clear o1 HP
  go_enter Tryz.func160, Tryz.ntmps160
  go_upto_region 2 with fail
  rw [← uW.out]
  clear uW
  generalize w.heap.size + 1 + 1 = b3 at xj ⊢
  generalize w.heap.size + 1 = b2 at vm xj ⊢
  generalize w.heap.size = b1 at vj ⊢
  obtain ⟨x0, x1, x2, x3, x4, x5, x6, x7, x8⟩ := aM vj.out
  obtain ⟨y0, _⟩ := aK vm.out
  obtain ⟨z0, _⟩ := aK xj.out
  go_wp2_with fail
  go_ret
  exact ⟨by rw [HR.out]; rfl, vd.out⟩
 by_cases o2 : 3 ≤ x.op ∧ x.op ≤ 9
 ·have HR := Eh (show x.p.holds r = dN x.op x.col x.v x.w r by rw [HP.out, if_neg o1, if_pos o2])
  have xF := Eh (leaf_ok x wL.out)
  have q1 : (x.op == 1) = false := by simpa using o1
  clear HP
  rw [HR.out]
  have h7 : x.op = 3 ∨ x.op = 4 ∨ x.op = 5 ∨ x.op = 6 ∨ x.op = 7 ∨ x.op = 8 ∨ x.op = 9 := by omega
  clear o1 o2 HR
  generalize dN x.op x.col x.v x.w r = rr at xF ⊢
  go_enter Tryz.func160, Tryz.ntmps160
  go_upto_region 2 with fail
  rw [← uW.out]
  clear uW
  generalize w.heap.size + 1 + 1 = b3 at xj ⊢
  generalize w.heap.size + 1 = b2 at vm xj ⊢
  generalize w.heap.size = b1 at vj ⊢
  obtain ⟨x0, x1, x2, x3, x4, x5, x6, x7, x8⟩ := aM vj.out
  obtain ⟨y0, _⟩ := aK vm.out
  obtain ⟨z0, _⟩ := aK xj.out
  have HL := Eh (bD (ak vj.out))
  rcases h7 with h | h | h | h | h | h | h
  all_goals
   have Ef := Eh h
   rw [h] at x0
   clear h q1
   go_wp2_with (first | (refine ai rfl _ _ rfl _ _ rfl _ HL.out ?_) | (go_at_call 189; refine xF.out.mono ?_; rintro e1 w1 ⟨rfl, hk2⟩; have vp := Eh (vd.out.trans hk2 (fun _ h => h.elim)); clear hk2 xF HL x0 x1 x2 x3 x4 x5 x6 x7 x8 y0 z0))
   go_ret
   exact ⟨rfl, vp.out⟩
 by_cases o3 : x.op = 10
 ·rcases es with _ | ⟨e, es⟩
  ·have HR := Eh (show x.p.holds r = true by rw [HP.out, if_neg o1, if_neg o2, if_pos o3]; rfl)
   rw [List.length_nil] at hln
   rw [HR.out]
   have vK := Eh hln
   clear HP HR hln
   go_enter Tryz.func160, Tryz.ntmps160
   go_upto_region 2 with fail
   rw [← uW.out]
   clear uW
   generalize w.heap.size + 1 + 1 = b3 at xj ⊢
   generalize w.heap.size + 1 = b2 at vm xj ⊢
   generalize w.heap.size = b1 at vj ⊢
   obtain ⟨x0, x1, x2, x3, x4, x5, x6, x7, x8⟩ := aM vj.out
   obtain ⟨y0, _⟩ := aK vm.out
   obtain ⟨z0, _⟩ := aK xj.out
   rw [vK.out] at x8
   rw [o3] at x0
   clear o1 o2 o3
   go_upto_region 14 with fail
   refine ag [(0, false, 10), (1, false, 10), (2, false, 10), (3, false, 10), (4, false, 10), (5, false, 10), (6, false, 10), (7, false, 10), (8, false, 10), (9, false, 10), (10, true, 0), (11, false, 999), (12, false, 999), (13, false, 999)] (by kernel_rfl) (by kernel_rfl) ?_
   iterate 5 (refine af rfl rfl (fun K hK => ?_); go_simp; refine hK _ ?_; clear hK K)
   iterate 5 (first | (refine aq rfl rfl ?_; simp only [Act.put, Ei, Ej, Ek, El, Em, En]) | (refine am rfl rfl (fun K hK => ?_); go_simp; refine hK _ ?_; clear hK K))
   refine al rfl ?_
   refine bO rfl ?_
   simp only [Act.put, Ei, Ej, Ek]
   refine wpList_nil ?_
   refine And.intro ?_ ?_
   ·go_simp
   first | (refine aq rfl rfl ?_; simp only [Act.put, Ei, Ej, Ek, El, Em, En]) | (refine am rfl rfl (fun K hK => ?_); go_simp; refine hK _ ?_; clear hK K)
   iterate 2 (refine af rfl rfl (fun K hK => ?_); go_simp; refine hK _ ?_; clear hK K)
   refine ar ?_
   go_wp2_with fail
   go_ret
   exact ⟨rfl, vd.out.drew⟩
  ·have HR := Eh (show x.p.holds r = !(e.p.holds r) by rw [HP.out, if_neg o1, if_neg o2, if_pos o3]; rfl)
   have hl0 : (((e :: es).length : Int) == 0) = false := by simp; omega
   have hl1 : (0 : Int) < ((e :: es).length : Int) := by simp only [List.length_cons]; omega
   have hl2 : 0 < (e :: es).length := by simp
   have DC := Eh (yy.out e (List.mem_cons_self ..))
   obtain ⟨g, oo, hga, hrng⟩ := aF PredE.len (by rw [hln] at HE; exact HE.out) (show (e :: es)[0]? = some e from rfl) rfl
   have vz := Eh (bD (w := W1.drew) (by simpa using hrng))
   rw [HR.out]
   have vK := Eh hln
   have zY := Eh hga
   clear HP HR hln hga hrng HE yy
   generalize (e :: es).length = n at *
   generalize e.p.holds r = rr at *
   go_enter Tryz.func160, Tryz.ntmps160
   go_upto_region 2 with fail
   rw [← uW.out]
   clear uW
   generalize w.heap.size + 1 + 1 = b3 at xj ⊢
   generalize w.heap.size + 1 = b2 at vm xj ⊢
   generalize w.heap.size = b1 at vj ⊢
   obtain ⟨x0, x1, x2, x3, x4, x5, x6, x7, x8⟩ := aM vj.out
   obtain ⟨y0, _⟩ := aK vm.out
   obtain ⟨z0, _⟩ := aK xj.out
   rw [vK.out, zY.out] at x8
   rw [o3] at x0
   clear o1 o2 o3
   have HH := Eh (j5 (aB ((Kept.refl (fun _ => False) _).drew) vm.out) (DC.out.kept ((Kept.refl _ _).drew)))
   go_upto_region 14 with fail
   refine ag [(0, false, 10), (1, false, 10), (2, false, 10), (3, false, 10), (4, false, 10), (5, false, 10), (6, false, 10), (7, false, 10), (8, false, 10), (9, false, 10), (10, true, 0), (11, false, 999), (12, false, 999), (13, false, 999)] (by kernel_rfl) (by kernel_rfl) ?_
   iterate 5 (refine af rfl rfl (fun K hK => ?_); (first | ((refine aj _ _ rfl _ _ rfl _ vz.out ?_); go_simp) | go_simp); refine hK _ ?_; clear hK K)
   iterate 5 (first | (refine aq rfl rfl ?_; simp only [Act.put, Ei, Ej, Ek, El, Em, En]) | (refine am rfl rfl (fun K hK => ?_); (first | ((refine aj _ _ rfl _ _ rfl _ vz.out ?_); go_simp) | go_simp); refine hK _ ?_; clear hK K))
   refine al rfl ?_
   refine aw rfl (fun K hK => ?_)
   go_simp
   refine HH.out.mono ?_
   rintro e2 w2 ⟨rfl, hk2⟩
   have vp := Eh (vd.out.drew.trans hk2 (fun _ h => h.elim))
   clear hk2 HH vz x0 x1 x2 x3 x4 x5 x6 x7 x8 y0 z0
   refine hK _ _ ?_
   clear hK K
   refine wpList_nil ?_
   refine And.intro ?_ ?_
   ·go_simp
   first | (refine aq rfl rfl ?_; simp only [Act.put, Ei, Ej, Ek, El, Em, En]) | (refine am rfl rfl (fun K hK => ?_); (first | ((refine aj _ _ rfl _ _ rfl _ vz.out ?_); go_simp) | go_simp); refine hK _ ?_; clear hK K)
   iterate 2 (refine af rfl rfl (fun K hK => ?_); (first | ((refine aj _ _ rfl _ _ rfl _ vz.out ?_); go_simp) | go_simp); refine hK _ ?_; clear hK K)
   refine ar ?_
   go_wp2_with fail
   go_ret
   exact ⟨rfl, vp.out⟩
 by_cases o4 : x.op = 11
 ·have HR := Eh (show x.p.holds r = !(es.any (fun e => !(e.p.holds r))) by rw [HP.out, if_neg o1, if_neg o2, if_neg o3, if_pos o4, List.all_map, List.any_eq_not_all_not, Bool.not_not]; congr 1; funext e; simp)
  have wS := Eh (hU (fun e => !(e.p.holds r)) HE.out (fun e he => holds2F vm.out xj.out (yy.out e he)))
  rw [HR.out]
  clear HP HR HE yy hln
  generalize es.any (fun e => !(e.p.holds r)) = rr at *
  go_enter Tryz.func160, Tryz.ntmps160
  go_upto_region 2 with fail
  rw [← uW.out]
  clear uW
  generalize w.heap.size + 1 + 1 = b3 at xj wS ⊢
  generalize w.heap.size + 1 = b2 at vm xj ⊢
  generalize w.heap.size = b1 at vj ⊢
  obtain ⟨x0, x1, x2, x3, x4, x5, x6, x7, x8⟩ := aM vj.out
  obtain ⟨y0, _⟩ := aK vm.out
  obtain ⟨z0, _⟩ := aK xj.out
  rw [o4] at x0
  clear o1 o2 o3 o4
  go_wp2_with (go_at_call 190; refine wS.out.mono ?_; rintro e1 w1 ⟨rfl, hk2⟩; have vp := Eh (vd.out.trans hk2 (fun _ h => h.elim)); clear hk2 wS x0 x1 x2 x3 x4 x5 x6 x7 x8 y0 z0)
  go_ret
  exact ⟨rfl, vp.out⟩
 by_cases o5 : x.op = 12
 ·have HR := Eh (show x.p.holds r = es.any (fun e => e.p.holds r) by rw [HP.out, if_neg o1, if_neg o2, if_neg o3, if_neg o4, if_pos o5, List.any_map]; rfl)
  have wS := Eh (hU (fun e => e.p.holds r) HE.out (fun e he => holds1F vm.out (yy.out e he)))
  rw [HR.out]
  clear HP HR HE yy hln
  generalize es.any (fun e => e.p.holds r) = rr at *
  go_enter Tryz.func160, Tryz.ntmps160
  go_upto_region 2 with fail
  rw [← uW.out]
  clear uW
  generalize w.heap.size + 1 + 1 = b3 at xj wS ⊢
  generalize w.heap.size + 1 = b2 at wS vm xj ⊢
  generalize w.heap.size = b1 at vj ⊢
  obtain ⟨x0, x1, x2, x3, x4, x5, x6, x7, x8⟩ := aM vj.out
  obtain ⟨y0, _⟩ := aK vm.out
  obtain ⟨z0, _⟩ := aK xj.out
  rw [o5] at x0
  clear o1 o2 o3 o4 o5
  go_wp2_with (go_at_call 190; refine wS.out.mono ?_; rintro e1 w1 ⟨rfl, hk2⟩; have vp := Eh (vd.out.trans hk2 (fun _ h => h.elim)); clear hk2 wS x0 x1 x2 x3 x4 x5 x6 x7 x8 y0 z0)
  go_ret
  exact ⟨rfl, vp.out⟩
 have HR := Eh (show x.p.holds r = false by rw [HP.out, if_neg o1, if_neg o2, if_neg o3, if_neg o4, if_neg o5])
 have q1 : (x.op == 1) = false := by simpa using o1
 have q3 : (x.op == 3) = false := by simp; omega
 have q4 : (x.op == 4) = false := by simp; omega
 have q5 : (x.op == 5) = false := by simp; omega
 have q6 : (x.op == 6) = false := by simp; omega
 have q7 : (x.op == 7) = false := by simp; omega
 have q8 : (x.op == 8) = false := by simp; omega
 have q9 : (x.op == 9) = false := by simp; omega
 have q10 : (x.op == 10) = false := by simpa using o3
 have q11 : (x.op == 11) = false := by simpa using o4
 have q12 : (x.op == 12) = false := by simpa using o5
 rw [HR.out]
 clear HP HR HE yy hln o1 o2 o3 o4 o5
 go_enter Tryz.func160, Tryz.ntmps160
 go_upto_region 2 with fail
 rw [← uW.out]
 clear uW
 generalize w.heap.size + 1 + 1 = b3 at xj ⊢
 generalize w.heap.size + 1 = b2 at vm xj ⊢
 generalize w.heap.size = b1 at vj ⊢
 obtain ⟨x0, x1, x2, x3, x4, x5, x6, x7, x8⟩ := aM vj.out
 obtain ⟨y0, _⟩ := aK vm.out
 obtain ⟨z0, _⟩ := aK xj.out
 go_wp2_with fail
 go_ret
 exact ⟨rfl, vd.out⟩
end Go.Proofs.YtgljdkjepdknnaaGreatDoor
