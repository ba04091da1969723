/- Whether a predicate holds of a row (pred.Holds). (printed by genpredh.py) -/
import Derived.Test.YtgljdkjepdknnaaGreatDoorMT8
set_option maxHeartbeats 64000000
namespace Go.Proofs.YtgljdkjepdknnaaGreatDoor
open Go.ChangeShapes Go.WideShapes Go.ChangeAt Go.RowKit
set_option maxRecDepth 100000
set_option linter.unusedSimpArgs false
@[go_sem] theorem rN {P : Program} (w : World) (a : Addr) (f : Fn) (x y : Array Value) (m : Mode) : (store a (.func f x y) m).run P w = stored P w a (.func f x y) m := kW w a _ m rfl
def HoldsC (w : World) (rv : Value) (e : PredE) (p : Bool) : Prop := ∀ W, Kept (fun _ => False) w W → Calls Tryz.prog 160 #[.agg e.cells.toArray, rv] W fun r W' => r = .returned (.bool p) ∧ Kept (fun _ => False) W W'
theorem HoldsC.kept {w w' : World} {rv : Value} {e : PredE} {p : Bool} (h : HoldsC w rv e p) (k : Kept (fun _ => False) w w') : HoldsC w' rv e p := fun W hW => h W (k.trans hW (fun _ h => h.elim))
theorem i4 {w : World} {b : Nat} {rv : Value} {t : TypeId} {e : PredE} {p : Bool} (hb : w.heap[b]? = some (.cells #[rv] t (0, 0))) (h : HoldsC w rv e p) :
  Calls Tryz.prog 188 #[.agg e.cells.toArray, .pointer (some ⟨b, 0, none⟩)] w fun r w' => r = .returned (.bool p) ∧ Kept (fun _ => False) w w' := by
 obtain ⟨W1, hW1, hk1, hbx, hb1⟩ := bQ hb e.cells.toArray tPr
 have sR := BO hW1
 have sW := BO hk1
 have HL := BO (bu (ai hbx))
 have HC := BO (h W1 hk1)
 obtain ⟨c0, _⟩ := aM hb1
 clear hb hW1 hk1 hbx hb1 h
 go_enter Tryz.func188, Tryz.ntmps188
 go_upto_region 1 with fail
 rw [← sR.out]
 clear sR
 generalize w.heap.size = bx at HL ⊢
 go_wp2_with (first | (refine ag rfl _ _ rfl _ _ rfl _ HL.out ?_) | (go_at_call 160; refine HC.out.mono ?_; rintro e1 w1 ⟨rfl, hk2⟩; have s8 := BO (sW.out.trans hk2 (fun _ h => h.elim)); clear hk2 HC c0))
 go_ret
 exact ⟨rfl, s8.out⟩
theorem holds1F {w : World} {b : Nat} {rv : Value} {t : TypeId} {e : PredE} {p : Bool} (hb : w.heap[b]? = some (.cells #[rv] t (0, 0))) (h : HoldsC w rv e p) : PredF 188 #[.pointer (some ⟨b, 0, none⟩)] w e.cells p :=
 ⟨enters_of Tryz.func188 (by kernel_rfl) rfl, fun W hW => i4 (aA hW hb) (h.kept hW)⟩
theorem holds2F {w : World} {b b5 : Nat} {rv : Value} {t t5 : TypeId} {e : PredE} {p : Bool} (hb : w.heap[b]? = some (.cells #[rv] t (0, 0))) (hb5 : w.heap[b5]? = some (.cells #[.func (.func 188) #[] #[.pointer (some ⟨b, 0, none⟩)]] t5 (0, 0))) (h : HoldsC w rv e p) : PredF 191 #[.pointer (some ⟨b5, 0, none⟩)] w e.cells (!p) := by
 refine ⟨enters_of Tryz.func191 (by kernel_rfl) rfl, fun W hW => ?_⟩
 obtain ⟨W1, hW1, hk1, hbx, hb1⟩ := bQ (aA hW hb) e.cells.toArray tPr
 have hb51 := aA hk1 (aA hW hb5)
 have sR := BO hW1
 have sW := BO hk1
 have HL := BO (bu (ai hbx))
 have HC := BO (i4 hb1 ((h.kept hW).kept hk1))
 obtain ⟨c0, _⟩ := aM hb51
 clear hb hb5 hW hW1 hk1 hbx hb1 hb51 h
 show Calls Tryz.prog 191 #[.agg e.cells.toArray, .pointer (some ⟨b5, 0, none⟩)] W _
 go_enter Tryz.func191, Tryz.ntmps191
 go_upto_region 1 with fail
 rw [← sR.out]
 clear sR
 generalize W.heap.size = bx at HL ⊢
 go_wp2_with (first | (refine ag rfl _ _ rfl _ _ rfl _ HL.out ?_) | (go_at_call 188; refine HC.out.mono ?_; rintro e1 w1 ⟨rfl, hk2⟩; have s8 := BO (sW.out.trans hk2 (fun _ h => h.elim)); clear hk2 HC c0))
 go_ret
 exact ⟨rfl, s8.out⟩
theorem l9 : ∀ (p : PredT) (x : PredE) (w : World) (rv : Value) (r : List Val), x.p = p → PredsRd w (.slice x.la x.ln x.lc) x.subs → cO w rv r →
  Calls Tryz.prog 160 #[.agg x.cells.toArray, rv] w fun e w' => e = .returned (.bool (x.p.holds r)) ∧ Kept (fun _ => False) w w' := by
 refine PredT.ind fun op col v w0 l ih x w rv r hx h1 h2 => ?_
 have hl : x.subs = l := by unfold PredE.p at hx; cases hx; rfl
 obtain ⟨ra, rn, rc, rfl⟩ : ∃ a n c, rv = .slice a n c := by obtain ⟨_, _, a, c, h, _⟩ := h2; exact ⟨a, _, c, h⟩
 obtain ⟨W1, hW1, hk1, hb1, hb2, hb3⟩ := sE w x.cells.toArray #[.slice ra rn rc] #[.func (.func 188) #[] #[.pointer (some ⟨w.heap.size + 1, 0, none⟩)]] tPr 91 198
 obtain ⟨es, he, hsub, hes⟩ : ∃ es : List PredE, Rd W1 9 (.slice x.la x.ln x.lc) es.length (es.flatMap PredE.cells) ∧ x.subs = es.map PredE.p ∧ ∀ e ∈ es, HoldsC W1 (.slice ra rn rc) e (e.p.holds r) := by
  have k1 := h1.kept hk1
  have hr1 := h2.kept hk1 (fun _ _ h => h)
  generalize hxs : x.subs = xs at k1 hl
  cases k1 with
  | mk _ es he hes =>
   refine ⟨es, he, rfl, fun e hee W hW => ?_⟩
   exact ih e.p (by rw [← hl]; exact List.mem_map.2 ⟨e, hee, rfl⟩) e W _ r rfl ((hes e hee).kept hW) (hr1.kept hW (fun _ _ h => h))
 have HP := BO (show x.p.holds r = _ from PredT.holds_eq x.op x.col x.v x.w x.subs r)
 rw [hsub] at HP
 have sR := BO hW1
 have sW := BO hk1
 have sZ := BO hb1
 have s7 := BO hb2
 have uM := BO hb3
 have HE := BO he
 have vP := BO hes
 have ut := BO (h2.kept hk1 (fun _ _ h => h))
 have hln : x.ln = es.length := by obtain ⟨_, _, _, _, h, _⟩ := he; exact (Value.slice.inj h).2.1
 have hle : es.length ≤ 9223372036854775807 := by have := he.2.1; unfold maxLen at this; omega
 clear h1 h2 hW1 hk1 hb1 hb2 hb3 hx hl ih he hes hsub
 by_cases o1 : x.op = 1
 ·have HR := BO (show x.p.holds r = true by rw [HP.out, if_pos o1])
  have q1 : (x.op == 1) = true := by simpa using o1
  clear o1 HP
  go_enter Tryz.func160, Tryz.ntmps160
  go_upto_region 2 with fail
  rw [← sR.out]
  clear sR
  generalize w.heap.size + 1 + 1 = b3 at uM ⊢
  generalize w.heap.size + 1 = b2 at s7 uM ⊢
  generalize w.heap.size = b1 at sZ ⊢
  obtain ⟨x0, x1, x2, x3, x4, x5, x6, x7, x8⟩ := aK sZ.out
  obtain ⟨y0, _⟩ := aM s7.out
  obtain ⟨z0, _⟩ := aM uM.out
  go_wp2_with fail
  go_ret
  exact ⟨by rw [HR.out]; rfl, sW.out⟩
 by_cases o2 : 3 ≤ x.op ∧ x.op ≤ 9
 ·have HR := BO (show x.p.holds r = dw x.op x.col x.v x.w r by rw [HP.out, if_neg o1, if_pos o2])
  have uV := BO (leaf_ok x ut.out)
  have q1 : (x.op == 1) = false := by simpa using o1
  clear HP
  rw [HR.out]
  have h7 : x.op = 3 ∨ x.op = 4 ∨ x.op = 5 ∨ x.op = 6 ∨ x.op = 7 ∨ x.op = 8 ∨ x.op = 9 := by omega
  clear o1 o2 HR
  generalize dw x.op x.col x.v x.w r = rr at uV ⊢
  go_enter Tryz.func160, Tryz.ntmps160
  go_upto_region 2 with fail
  rw [← sR.out]
  clear sR
  generalize w.heap.size + 1 + 1 = b3 at uM ⊢
  generalize w.heap.size + 1 = b2 at s7 uM ⊢
  generalize w.heap.size = b1 at sZ ⊢
  obtain ⟨x0, x1, x2, x3, x4, x5, x6, x7, x8⟩ := aK sZ.out
  obtain ⟨y0, _⟩ := aM s7.out
  obtain ⟨z0, _⟩ := aM uM.out
  have HL := BO (bu (ai sZ.out))
  rcases h7 with h | h | h | h | h | h | h
  all_goals
   have BN := BO h
   rw [h] at x0
   clear h q1
   go_wp2_with (first | (refine ag rfl _ _ rfl _ _ rfl _ HL.out ?_) | (go_at_call 189; refine uV.out.mono ?_; rintro e1 w1 ⟨rfl, hk2⟩; have s8 := BO (sW.out.trans hk2 (fun _ h => h.elim)); clear hk2 uV HL x0 x1 x2 x3 x4 x5 x6 x7 x8 y0 z0))
   go_ret
   exact ⟨rfl, s8.out⟩
 by_cases o3 : x.op = 10
 ·rcases es with _ | ⟨e, es⟩
  ·have HR := BO (show x.p.holds r = true by rw [HP.out, if_neg o1, if_neg o2, if_pos o3]; rfl)
   rw [List.length_nil] at hln
   rw [HR.out]
   have tE := BO hln
   clear HP HR hln
   go_enter Tryz.func160, Tryz.ntmps160
   go_upto_region 2 with fail
   rw [← sR.out]
   clear sR
   generalize w.heap.size + 1 + 1 = b3 at uM ⊢
   generalize w.heap.size + 1 = b2 at s7 uM ⊢
   generalize w.heap.size = b1 at sZ ⊢
   obtain ⟨x0, x1, x2, x3, x4, x5, x6, x7, x8⟩ := aK sZ.out
   obtain ⟨y0, _⟩ := aM s7.out
   obtain ⟨z0, _⟩ := aM uM.out
   rw [tE.out] at x8
   rw [o3] at x0
   clear o1 o2 o3
   go_upto_region 14 with fail
   refine af [(0, false, 10), (1, false, 10), (2, false, 10), (3, false, 10), (4, false, 10), (5, false, 10), (6, false, 10), (7, false, 10), (8, false, 10), (9, false, 10), (10, true, 0), (11, false, 999), (12, false, 999), (13, false, 999)] (by kernel_rfl) (by kernel_rfl) ?_
   iterate 5 (refine ae rfl rfl (fun K hK => ?_); go_simp; refine hK _ ?_; clear hK K)
   iterate 5 (first | (refine am rfl rfl ?_; simp only [Act.put, BP, BQ, BR, BS, BT, BU]) | (refine ak rfl rfl (fun K hK => ?_); go_simp; refine hK _ ?_; clear hK K))
   refine al rfl ?_
   refine bI rfl ?_
   simp only [Act.put, BP, BQ, BR]
   refine wpList_nil ?_
   refine And.intro ?_ ?_
   ·go_simp
   first | (refine am rfl rfl ?_; simp only [Act.put, BP, BQ, BR, BS, BT, BU]) | (refine ak rfl rfl (fun K hK => ?_); go_simp; refine hK _ ?_; clear hK K)
   iterate 2 (refine ae rfl rfl (fun K hK => ?_); go_simp; refine hK _ ?_; clear hK K)
   refine ap ?_
   go_wp2_with fail
   go_ret
   exact ⟨rfl, sW.out.drew⟩
  ·have HR := BO (show x.p.holds r = !(e.p.holds r) by rw [HP.out, if_neg o1, if_neg o2, if_pos o3]; rfl)
   have hl0 : (((e :: es).length : Int) == 0) = false := by simp; omega
   have hl1 : (0 : Int) < ((e :: es).length : Int) := by simp only [List.length_cons]; omega
   have hl2 : 0 < (e :: es).length := by simp
   have Bo := BO (vP.out e (List.mem_cons_self ..))
   obtain ⟨g, oo, hga, hrng⟩ := aD PredE.len (by rw [hln] at HE; exact HE.out) (show (e :: es)[0]? = some e from rfl) rfl
   have tt := BO (bu (w := W1.drew) (by simpa using hrng))
   rw [HR.out]
   have tE := BO hln
   have xD := BO hga
   clear HP HR hln hga hrng HE vP
   generalize (e :: es).length = n at *
   generalize e.p.holds r = rr at *
   go_enter Tryz.func160, Tryz.ntmps160
   go_upto_region 2 with fail
   rw [← sR.out]
   clear sR
   generalize w.heap.size + 1 + 1 = b3 at uM ⊢
   generalize w.heap.size + 1 = b2 at s7 uM ⊢
   generalize w.heap.size = b1 at sZ ⊢
   obtain ⟨x0, x1, x2, x3, x4, x5, x6, x7, x8⟩ := aK sZ.out
   obtain ⟨y0, _⟩ := aM s7.out
   obtain ⟨z0, _⟩ := aM uM.out
   rw [tE.out, xD.out] at x8
   rw [o3] at x0
   clear o1 o2 o3
   have HH := BO (i4 (aA ((Kept.refl (fun _ => False) _).drew) s7.out) (Bo.out.kept ((Kept.refl _ _).drew)))
   go_upto_region 14 with fail
   refine af [(0, false, 10), (1, false, 10), (2, false, 10), (3, false, 10), (4, false, 10), (5, false, 10), (6, false, 10), (7, false, 10), (8, false, 10), (9, false, 10), (10, true, 0), (11, false, 999), (12, false, 999), (13, false, 999)] (by kernel_rfl) (by kernel_rfl) ?_
   iterate 5 (refine ae rfl rfl (fun K hK => ?_); (first | ((refine aj _ _ rfl _ _ rfl _ tt.out ?_); go_simp) | go_simp); refine hK _ ?_; clear hK K)
   iterate 5 (first | (refine am rfl rfl ?_; simp only [Act.put, BP, BQ, BR, BS, BT, BU]) | (refine ak rfl rfl (fun K hK => ?_); (first | ((refine aj _ _ rfl _ _ rfl _ tt.out ?_); go_simp) | go_simp); refine hK _ ?_; clear hK K))
   refine al rfl ?_
   refine aw rfl (fun K hK => ?_)
   go_simp
   refine HH.out.mono ?_
   rintro e2 w2 ⟨rfl, hk2⟩
   have s8 := BO (sW.out.drew.trans hk2 (fun _ h => h.elim))
   clear hk2 HH tt x0 x1 x2 x3 x4 x5 x6 x7 x8 y0 z0
   refine hK _ _ ?_
   clear hK K
   refine wpList_nil ?_
   refine And.intro ?_ ?_
   ·go_simp
   first | (refine am rfl rfl ?_; simp only [Act.put, BP, BQ, BR, BS, BT, BU]) | (refine ak rfl rfl (fun K hK => ?_); (first | ((refine aj _ _ rfl _ _ rfl _ tt.out ?_); go_simp) | go_simp); refine hK _ ?_; clear hK K)
   iterate 2 (refine ae rfl rfl (fun K hK => ?_); (first | ((refine aj _ _ rfl _ _ rfl _ tt.out ?_); go_simp) | go_simp); refine hK _ ?_; clear hK K)
   refine ap ?_
   go_wp2_with fail
   go_ret
   exact ⟨rfl, s8.out⟩
 by_cases o4 : x.op = 11
 ·have HR := BO (show x.p.holds r = !(es.any (fun e => !(e.p.holds r))) by rw [HP.out, if_neg o1, if_neg o2, if_neg o3, if_pos o4, List.all_map, List.any_eq_not_all_not, Bool.not_not]; congr 1; funext e; simp)
  have vS := BO (gz (fun e => !(e.p.holds r)) HE.out (fun e he => holds2F s7.out uM.out (vP.out e he)))
  rw [HR.out]
  clear HP HR HE vP hln
  generalize es.any (fun e => !(e.p.holds r)) = rr at *
  go_enter Tryz.func160, Tryz.ntmps160
  go_upto_region 2 with fail
  rw [← sR.out]
  clear sR
  generalize w.heap.size + 1 + 1 = b3 at uM vS ⊢
  generalize w.heap.size + 1 = b2 at s7 uM ⊢
  generalize w.heap.size = b1 at sZ ⊢
  obtain ⟨x0, x1, x2, x3, x4, x5, x6, x7, x8⟩ := aK sZ.out
  obtain ⟨y0, _⟩ := aM s7.out
  obtain ⟨z0, _⟩ := aM uM.out
  rw [o4] at x0
  clear o1 o2 o3 o4
  go_wp2_with (go_at_call 190; refine vS.out.mono ?_; rintro e1 w1 ⟨rfl, hk2⟩; have s8 := BO (sW.out.trans hk2 (fun _ h => h.elim)); clear hk2 vS x0 x1 x2 x3 x4 x5 x6 x7 x8 y0 z0)
  go_ret
  exact ⟨rfl, s8.out⟩
 by_cases o5 : x.op = 12
 ·have HR := BO (show x.p.holds r = es.any (fun e => e.p.holds r) by rw [HP.out, if_neg o1, if_neg o2, if_neg o3, if_neg o4, if_pos o5, List.any_map]; rfl)
  have vS := BO (gz (fun e => e.p.holds r) HE.out (fun e he => holds1F s7.out (vP.out e he)))
  rw [HR.out]
  clear HP HR HE vP hln
  generalize es.any (fun e => e.p.holds r) = rr at *
  go_enter Tryz.func160, Tryz.ntmps160
  go_upto_region 2 with fail
  rw [← sR.out]
  clear sR
  generalize w.heap.size + 1 + 1 = b3 at uM vS ⊢
  generalize w.heap.size + 1 = b2 at vS s7 uM ⊢
  generalize w.heap.size = b1 at sZ ⊢
  obtain ⟨x0, x1, x2, x3, x4, x5, x6, x7, x8⟩ := aK sZ.out
  obtain ⟨y0, _⟩ := aM s7.out
  obtain ⟨z0, _⟩ := aM uM.out
  rw [o5] at x0
  clear o1 o2 o3 o4 o5
  go_wp2_with (go_at_call 190; refine vS.out.mono ?_; rintro e1 w1 ⟨rfl, hk2⟩; have s8 := BO (sW.out.trans hk2 (fun _ h => h.elim)); clear hk2 vS x0 x1 x2 x3 x4 x5 x6 x7 x8 y0 z0)
  go_ret
  exact ⟨rfl, s8.out⟩
 have HR := BO (show x.p.holds r = false by rw [HP.out, if_neg o1, if_neg o2, if_neg o3, if_neg o4, if_neg o5])
 have q1 : (x.op == 1) = false := by simpa using o1
 have q3 : (x.op == 3) = false := by simp; omega
 have q4 : (x.op == 4) = false := by simp; omega
 have q5 : (x.op == 5) = false := by simp; omega
 have q6 : (x.op == 6) = false := by simp; omega
 have q7 : (x.op == 7) = false := by simp; omega
 have q8 : (x.op == 8) = false := by simp; omega
 have q9 : (x.op == 9) = false := by simp; omega
 have q10 : (x.op == 10) = false := by simpa using o3
 have q11 : (x.op == 11) = false := by simpa using o4
 have q12 : (x.op == 12) = false := by simpa using o5
 rw [HR.out]
 clear HP HR HE vP hln o1 o2 o3 o4 o5
 go_enter Tryz.func160, Tryz.ntmps160
 go_upto_region 2 with fail
 rw [← sR.out]
 clear sR
 generalize w.heap.size + 1 + 1 = b3 at uM ⊢
 generalize w.heap.size + 1 = b2 at s7 uM ⊢
 generalize w.heap.size = b1 at sZ ⊢
 obtain ⟨x0, x1, x2, x3, x4, x5, x6, x7, x8⟩ := aK sZ.out
 obtain ⟨y0, _⟩ := aM s7.out
 obtain ⟨z0, _⟩ := aM uM.out
 go_wp2_with fail
 go_ret
 exact ⟨rfl, sW.out⟩
end Go.Proofs.YtgljdkjepdknnaaGreatDoor
