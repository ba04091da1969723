/- Whether a predicate holds of a row (pred.Holds). (printed by genpredh.py) -/
import Derived.Test.YtgljdkjepdknnaaGreatDoorMR9
namespace Go.Proofs.YtgljdkjepdknnaaGreatDoor
open Go.ChangeShapes Go.WideShapes Go.ChangeAt Go.RowKit
set_option maxRecDepth 100000
set_option linter.unusedSimpArgs false

@[go_sem] theorem run_store_func {P : Program} (w : World) (a : Addr) (f : Fn) (x y : Array Value) (m : Mode) : (store a (.func f x y) m).run P w = stored P w a (.func f x y) m := run_store_one w a _ m rfl
/-- what the function asks of a part -/
def HoldsC (w : World) (rv : Value) (e : PredE) (p : Bool) : Prop := ∀ W, Kept (fun _ => False) w W → Calls Tryz.prog 160 #[.agg e.cells.toArray, rv] W fun r W' => r = .returned (.bool p) ∧ Kept (fun _ => False) W W'
theorem HoldsC.kept {w w' : World} {rv : Value} {e : PredE} {p : Bool} (h : HoldsC w rv e p) (k : Kept (fun _ => False) w w') : HoldsC w' rv e p := fun W hW => h W (k.trans hW (fun _ h => h.elim))
set_option maxHeartbeats 2000000 in
theorem holds1_ok {w : World} {b : Nat} {rv : Value} {t : TypeId} {e : PredE} {p : Bool} (hb : w.heap[b]? = some (.cells #[rv] t (0, 0))) (h : HoldsC w rv e p) :
  Calls Tryz.prog 188 #[.agg e.cells.toArray, .pointer (some ⟨b, 0, none⟩)] w fun r w' => r = .returned (.bool p) ∧ Kept (fun _ => False) w w' := by
 obtain ⟨W1, hW1, hk1, hbx, hb1⟩ := two_blocks hb e.cells.toArray tPr
 have HW1 := Lib.hid hW1
 have HK1 := Lib.hid hk1
 have HL := Lib.hid (loadPr (blk_range hbx))
 have HC := Lib.hid (h W1 hk1)
 obtain ⟨c0, _⟩ := cells1 hb1
 clear hb hW1 hk1 hbx hb1 h
 go_enter Tryz.func188, Tryz.ntmps188
 go_upto_region 1 with fail
 rw [← HW1.out]
 clear HW1
 generalize w.heap.size = bx at HL ⊢
 go_wp2_with (first | (refine wpList_ld rfl _ _ rfl _ _ rfl _ HL.out ?_) | (go_at_call 160; refine HC.out.mono ?_; rintro e1 w1 ⟨rfl, hk2⟩; have HK2 := Lib.hid (HK1.out.trans hk2 (fun _ h => h.elim)); clear hk2 HC c0))
 go_ret
 exact ⟨rfl, HK2.out⟩
theorem holds1F {w : World} {b : Nat} {rv : Value} {t : TypeId} {e : PredE} {p : Bool} (hb : w.heap[b]? = some (.cells #[rv] t (0, 0))) (h : HoldsC w rv e p) : PredF 188 #[.pointer (some ⟨b, 0, none⟩)] w e.cells p :=
 ⟨enters_of Tryz.func188 (by kernel_rfl) rfl, fun W hW => holds1_ok (kept_blk hW hb) (h.kept hW)⟩
set_option maxHeartbeats 2000000 in
theorem holds2F {w : World} {b b5 : Nat} {rv : Value} {t t5 : TypeId} {e : PredE} {p : Bool} (hb : w.heap[b]? = some (.cells #[rv] t (0, 0))) (hb5 : w.heap[b5]? = some (.cells #[.func (.func 188) #[] #[.pointer (some ⟨b, 0, none⟩)]] t5 (0, 0))) (h : HoldsC w rv e p) : PredF 191 #[.pointer (some ⟨b5, 0, none⟩)] w e.cells (!p) := by
 refine ⟨enters_of Tryz.func191 (by kernel_rfl) rfl, fun W hW => ?_⟩
 obtain ⟨W1, hW1, hk1, hbx, hb1⟩ := two_blocks (kept_blk hW hb) e.cells.toArray tPr
 have hb51 := kept_blk hk1 (kept_blk hW hb5)
 have HW1 := Lib.hid hW1
 have HK1 := Lib.hid hk1
 have HL := Lib.hid (loadPr (blk_range hbx))
 have HC := Lib.hid (holds1_ok hb1 ((h.kept hW).kept hk1))
 obtain ⟨c0, _⟩ := cells1 hb51
 clear hb hb5 hW hW1 hk1 hbx hb1 hb51 h
 show Calls Tryz.prog 191 #[.agg e.cells.toArray, .pointer (some ⟨b5, 0, none⟩)] W _
 go_enter Tryz.func191, Tryz.ntmps191
 go_upto_region 1 with fail
 rw [← HW1.out]
 clear HW1
 generalize W.heap.size = bx at HL ⊢
 go_wp2_with (first | (refine wpList_ld rfl _ _ rfl _ _ rfl _ HL.out ?_) | (go_at_call 188; refine HC.out.mono ?_; rintro e1 w1 ⟨rfl, hk2⟩; have HK2 := Lib.hid (HK1.out.trans hk2 (fun _ h => h.elim)); clear hk2 HC c0))
 go_ret
 exact ⟨rfl, HK2.out⟩
set_option maxHeartbeats 8000000 in
theorem predHolds_ok : ∀ (p : PredT) (x : PredE) (w : World) (rv : Value) (r : List Val), x.p = p → PredsRd w (.slice x.la x.ln x.lc) x.subs → RowRd w rv r →
  Calls Tryz.prog 160 #[.agg x.cells.toArray, rv] w fun e w' => e = .returned (.bool (x.p.holds r)) ∧ Kept (fun _ => False) w w' := by
 refine PredT.ind fun op col v w0 l ih x w rv r hx h1 h2 => ?_
 have hl : x.subs = l := by unfold PredE.p at hx; cases hx; rfl
 obtain ⟨ra, rn, rc, rfl⟩ : ∃ a n c, rv = .slice a n c := by obtain ⟨_, _, a, c, h, _⟩ := h2; exact ⟨a, _, c, h⟩
 obtain ⟨W1, hW1, hk1, hb1, hb2, hb3⟩ := alloc3 w x.cells.toArray #[.slice ra rn rc] #[.func (.func 188) #[] #[.pointer (some ⟨w.heap.size + 1, 0, none⟩)]] tPr 91 198
 obtain ⟨es, he, hsub, hes⟩ : ∃ es : List PredE, Rd W1 9 (.slice x.la x.ln x.lc) es.length (es.flatMap PredE.cells) ∧ x.subs = es.map PredE.p ∧ ∀ e ∈ es, HoldsC W1 (.slice ra rn rc) e (e.p.holds r) := by
  have k1 := h1.kept hk1
  have hr1 := h2.kept hk1 (fun _ _ h => h)
  generalize hxs : x.subs = xs at k1 hl
  cases k1 with
  | mk _ es he hes =>
   refine ⟨es, he, rfl, fun e hee W hW => ?_⟩
   exact ih e.p (by rw [← hl]; exact List.mem_map.2 ⟨e, hee, rfl⟩) e W _ r rfl ((hes e hee).kept hW) (hr1.kept hW (fun _ _ h => h))
 have HP := Lib.hid (show x.p.holds r = _ from PredT.holds_eq x.op x.col x.v x.w x.subs r)
 rw [hsub] at HP
 have HW1 := Lib.hid hW1
 have HK1 := Lib.hid hk1
 have HB1 := Lib.hid hb1
 have HB2 := Lib.hid hb2
 have HB3 := Lib.hid hb3
 have HE := Lib.hid he
 have HES := Lib.hid hes
 have HR1 := Lib.hid (h2.kept hk1 (fun _ _ h => h))
 have hln : x.ln = es.length := by obtain ⟨_, _, _, _, h, _⟩ := he; exact (Value.slice.inj h).2.1
 have hle : es.length ≤ 9223372036854775807 := by have := he.2.1; unfold maxLen at this; omega
 clear h1 h2 hW1 hk1 hb1 hb2 hb3 hx hl ih he hes hsub
 by_cases o1 : x.op = 1
 ·have HR := Lib.hid (show x.p.holds r = true by rw [HP.out, if_pos o1])
  have q1 : (x.op == 1) = true := by simpa using o1
  clear o1 HP
  go_enter Tryz.func160, Tryz.ntmps160
  go_upto_region 2 with fail
  rw [← HW1.out]
  clear HW1
  generalize w.heap.size + 1 + 1 = b3 at HB3 ⊢
  generalize w.heap.size + 1 = b2 at HB2 HB3 ⊢
  generalize w.heap.size = b1 at HB1 ⊢
  obtain ⟨x0, x1, x2, x3, x4, x5, x6, x7, x8⟩ := boxPr HB1.out
  obtain ⟨y0, _⟩ := cells1 HB2.out
  obtain ⟨z0, _⟩ := cells1 HB3.out
  go_wp2_with fail
  go_ret
  exact ⟨by rw [HR.out]; rfl, HK1.out⟩
 by_cases o2 : 3 ≤ x.op ∧ x.op ≤ 9
 ·have HR := Lib.hid (show x.p.holds r = leafT x.op x.col x.v x.w r by rw [HP.out, if_neg o1, if_pos o2])
  have HLF := Lib.hid (leaf_ok x HR1.out)
  have q1 : (x.op == 1) = false := by simpa using o1
  clear HP
  rw [HR.out]
  have h7 : x.op = 3 ∨ x.op = 4 ∨ x.op = 5 ∨ x.op = 6 ∨ x.op = 7 ∨ x.op = 8 ∨ x.op = 9 := by omega
  clear o1 o2 HR
  generalize leafT x.op x.col x.v x.w r = rr at HLF ⊢
  go_enter Tryz.func160, Tryz.ntmps160
  go_upto_region 2 with fail
  rw [← HW1.out]
  clear HW1
  generalize w.heap.size + 1 + 1 = b3 at HB3 ⊢
  generalize w.heap.size + 1 = b2 at HB2 HB3 ⊢
  generalize w.heap.size = b1 at HB1 ⊢
  obtain ⟨x0, x1, x2, x3, x4, x5, x6, x7, x8⟩ := boxPr HB1.out
  obtain ⟨y0, _⟩ := cells1 HB2.out
  obtain ⟨z0, _⟩ := cells1 HB3.out
  have HL := Lib.hid (loadPr (blk_range HB1.out))
  rcases h7 with h | h | h | h | h | h | h
  all_goals
   have HOP := Lib.hid h
   rw [h] at x0
   clear h q1
   go_wp2_with (first | (refine wpList_ld rfl _ _ rfl _ _ rfl _ HL.out ?_) | (go_at_call 189; refine HLF.out.mono ?_; rintro e1 w1 ⟨rfl, hk2⟩; have HK2 := Lib.hid (HK1.out.trans hk2 (fun _ h => h.elim)); clear hk2 HLF HL x0 x1 x2 x3 x4 x5 x6 x7 x8 y0 z0))
   go_ret
   exact ⟨rfl, HK2.out⟩
 by_cases o3 : x.op = 10
 ·rcases es with _ | ⟨e, es⟩
  ·have HR := Lib.hid (show x.p.holds r = true by rw [HP.out, if_neg o1, if_neg o2, if_pos o3]; rfl)
   rw [List.length_nil] at hln
   rw [HR.out]
   have HLN := Lib.hid hln
   clear HP HR hln
   go_enter Tryz.func160, Tryz.ntmps160
   go_upto_region 2 with fail
   rw [← HW1.out]
   clear HW1
   generalize w.heap.size + 1 + 1 = b3 at HB3 ⊢
   generalize w.heap.size + 1 = b2 at HB2 HB3 ⊢
   generalize w.heap.size = b1 at HB1 ⊢
   obtain ⟨x0, x1, x2, x3, x4, x5, x6, x7, x8⟩ := boxPr HB1.out
   obtain ⟨y0, _⟩ := cells1 HB2.out
   obtain ⟨z0, _⟩ := cells1 HB3.out
   rw [HLN.out] at x8
   rw [o3] at x0
   clear o1 o2 o3
   go_upto_region 14 with fail
   refine wp_region_canon [(0, false, 10), (1, false, 10), (2, false, 10), (3, false, 10), (4, false, 10), (5, false, 10), (6, false, 10), (7, false, 10), (8, false, 10), (9, false, 10), (10, true, 0), (11, false, 999), (12, false, 999), (13, false, 999)] (by kernel_rfl) (by kernel_rfl) ?_
   iterate 5 (refine wpCan_read rfl rfl (fun K hK => ?_); go_simp; refine hK _ ?_; clear hK K)
   iterate 5 (first | (refine wpCan_no rfl rfl ?_; simp only [Act.put, List.setIfInBounds_toArray, List.set_cons_succ, List.set_cons_zero, List.getElem_toArray, List.getElem_cons_succ, List.getElem_cons_zero]) | (refine wpCan_yes rfl rfl (fun K hK => ?_); go_simp; refine hK _ ?_; clear hK K))
   refine wpCan_eff rfl ?_
   refine wpList_not rfl ?_
   simp only [Act.put, List.setIfInBounds_toArray, List.set_cons_succ, List.set_cons_zero]
   refine wpList_nil ?_
   refine And.intro ?_ ?_
   ·go_simp
   first | (refine wpCan_no rfl rfl ?_; simp only [Act.put, List.setIfInBounds_toArray, List.set_cons_succ, List.set_cons_zero, List.getElem_toArray, List.getElem_cons_succ, List.getElem_cons_zero]) | (refine wpCan_yes rfl rfl (fun K hK => ?_); go_simp; refine hK _ ?_; clear hK K)
   iterate 2 (refine wpCan_read rfl rfl (fun K hK => ?_); go_simp; refine hK _ ?_; clear hK K)
   refine wpCan_nil ?_
   go_wp2_with fail
   go_ret
   exact ⟨rfl, HK1.out.drew⟩
  ·have HR := Lib.hid (show x.p.holds r = !(e.p.holds r) by rw [HP.out, if_neg o1, if_neg o2, if_pos o3]; rfl)
   have hl0 : (((e :: es).length : Int) == 0) = false := by simp; omega
   have hl1 : (0 : Int) < ((e :: es).length : Int) := by simp only [List.length_cons]; omega
   have hl2 : 0 < (e :: es).length := by simp
   have HMC := Lib.hid (HES.out e (List.mem_cons_self ..))
   obtain ⟨g, oo, hga, hrng⟩ := elem_range PredE.len (by rw [hln] at HE; exact HE.out) (show (e :: es)[0]? = some e from rfl) rfl
   have HLE := Lib.hid (loadPr (w := W1.drew) (by simpa using hrng))
   rw [HR.out]
   have HLN := Lib.hid hln
   have HGA := Lib.hid hga
   clear HP HR hln hga hrng HE HES
   generalize (e :: es).length = n at *
   generalize e.p.holds r = rr at *
   go_enter Tryz.func160, Tryz.ntmps160
   go_upto_region 2 with fail
   rw [← HW1.out]
   clear HW1
   generalize w.heap.size + 1 + 1 = b3 at HB3 ⊢
   generalize w.heap.size + 1 = b2 at HB2 HB3 ⊢
   generalize w.heap.size = b1 at HB1 ⊢
   obtain ⟨x0, x1, x2, x3, x4, x5, x6, x7, x8⟩ := boxPr HB1.out
   obtain ⟨y0, _⟩ := cells1 HB2.out
   obtain ⟨z0, _⟩ := cells1 HB3.out
   rw [HLN.out, HGA.out] at x8
   rw [o3] at x0
   clear o1 o2 o3
   have HH := Lib.hid (holds1_ok (kept_blk ((Kept.refl (fun _ => False) _).drew) HB2.out) (HMC.out.kept ((Kept.refl _ _).drew)))
   go_upto_region 14 with fail
   refine wp_region_canon [(0, false, 10), (1, false, 10), (2, false, 10), (3, false, 10), (4, false, 10), (5, false, 10), (6, false, 10), (7, false, 10), (8, false, 10), (9, false, 10), (10, true, 0), (11, false, 999), (12, false, 999), (13, false, 999)] (by kernel_rfl) (by kernel_rfl) ?_
   iterate 5 (refine wpCan_read rfl rfl (fun K hK => ?_); (first | ((refine still_ld _ _ rfl _ _ rfl _ HLE.out ?_); go_simp) | go_simp); refine hK _ ?_; clear hK K)
   iterate 5 (first | (refine wpCan_no rfl rfl ?_; simp only [Act.put, List.setIfInBounds_toArray, List.set_cons_succ, List.set_cons_zero, List.getElem_toArray, List.getElem_cons_succ, List.getElem_cons_zero]) | (refine wpCan_yes rfl rfl (fun K hK => ?_); (first | ((refine still_ld _ _ rfl _ _ rfl _ HLE.out ?_); go_simp) | go_simp); refine hK _ ?_; clear hK K))
   refine wpCan_eff rfl ?_
   refine wpList_do rfl (fun K hK => ?_)
   go_simp
   refine HH.out.mono ?_
   rintro e2 w2 ⟨rfl, hk2⟩
   have HK2 := Lib.hid (HK1.out.drew.trans hk2 (fun _ h => h.elim))
   clear hk2 HH HLE x0 x1 x2 x3 x4 x5 x6 x7 x8 y0 z0
   refine hK _ _ ?_
   clear hK K
   refine wpList_nil ?_
   refine And.intro ?_ ?_
   ·go_simp
   first | (refine wpCan_no rfl rfl ?_; simp only [Act.put, List.setIfInBounds_toArray, List.set_cons_succ, List.set_cons_zero, List.getElem_toArray, List.getElem_cons_succ, List.getElem_cons_zero]) | (refine wpCan_yes rfl rfl (fun K hK => ?_); (first | ((refine still_ld _ _ rfl _ _ rfl _ HLE.out ?_); go_simp) | go_simp); refine hK _ ?_; clear hK K)
   iterate 2 (refine wpCan_read rfl rfl (fun K hK => ?_); (first | ((refine still_ld _ _ rfl _ _ rfl _ HLE.out ?_); go_simp) | go_simp); refine hK _ ?_; clear hK K)
   refine wpCan_nil ?_
   go_wp2_with fail
   go_ret
   exact ⟨rfl, HK2.out⟩
 by_cases o4 : x.op = 11
 ·have HR := Lib.hid (show x.p.holds r = !(es.any (fun e => !(e.p.holds r))) by rw [HP.out, if_neg o1, if_neg o2, if_neg o3, if_pos o4, List.all_map, List.any_eq_not_all_not, Bool.not_not]; congr 1; funext e; simp)
  have HCF := Lib.hid (containsFunc_P (fun e => !(e.p.holds r)) HE.out (fun e he => holds2F HB2.out HB3.out (HES.out e he)))
  rw [HR.out]
  clear HP HR HE HES hln
  generalize es.any (fun e => !(e.p.holds r)) = rr at *
  go_enter Tryz.func160, Tryz.ntmps160
  go_upto_region 2 with fail
  rw [← HW1.out]
  clear HW1
  generalize w.heap.size + 1 + 1 = b3 at HB3 HCF ⊢
  generalize w.heap.size + 1 = b2 at HB2 HB3 ⊢
  generalize w.heap.size = b1 at HB1 ⊢
  obtain ⟨x0, x1, x2, x3, x4, x5, x6, x7, x8⟩ := boxPr HB1.out
  obtain ⟨y0, _⟩ := cells1 HB2.out
  obtain ⟨z0, _⟩ := cells1 HB3.out
  rw [o4] at x0
  clear o1 o2 o3 o4
  go_wp2_with (go_at_call 190; refine HCF.out.mono ?_; rintro e1 w1 ⟨rfl, hk2⟩; have HK2 := Lib.hid (HK1.out.trans hk2 (fun _ h => h.elim)); clear hk2 HCF x0 x1 x2 x3 x4 x5 x6 x7 x8 y0 z0)
  go_ret
  exact ⟨rfl, HK2.out⟩
 by_cases o5 : x.op = 12
 ·have HR := Lib.hid (show x.p.holds r = es.any (fun e => e.p.holds r) by rw [HP.out, if_neg o1, if_neg o2, if_neg o3, if_neg o4, if_pos o5, List.any_map]; rfl)
  have HCF := Lib.hid (containsFunc_P (fun e => e.p.holds r) HE.out (fun e he => holds1F HB2.out (HES.out e he)))
  rw [HR.out]
  clear HP HR HE HES hln
  generalize es.any (fun e => e.p.holds r) = rr at *
  go_enter Tryz.func160, Tryz.ntmps160
  go_upto_region 2 with fail
  rw [← HW1.out]
  clear HW1
  generalize w.heap.size + 1 + 1 = b3 at HB3 HCF ⊢
  generalize w.heap.size + 1 = b2 at HCF HB2 HB3 ⊢
  generalize w.heap.size = b1 at HB1 ⊢
  obtain ⟨x0, x1, x2, x3, x4, x5, x6, x7, x8⟩ := boxPr HB1.out
  obtain ⟨y0, _⟩ := cells1 HB2.out
  obtain ⟨z0, _⟩ := cells1 HB3.out
  rw [o5] at x0
  clear o1 o2 o3 o4 o5
  go_wp2_with (go_at_call 190; refine HCF.out.mono ?_; rintro e1 w1 ⟨rfl, hk2⟩; have HK2 := Lib.hid (HK1.out.trans hk2 (fun _ h => h.elim)); clear hk2 HCF x0 x1 x2 x3 x4 x5 x6 x7 x8 y0 z0)
  go_ret
  exact ⟨rfl, HK2.out⟩
 have HR := Lib.hid (show x.p.holds r = false by rw [HP.out, if_neg o1, if_neg o2, if_neg o3, if_neg o4, if_neg o5])
 have q1 : (x.op == 1) = false := by simpa using o1
 have q3 : (x.op == 3) = false := by simp; omega
 have q4 : (x.op == 4) = false := by simp; omega
 have q5 : (x.op == 5) = false := by simp; omega
 have q6 : (x.op == 6) = false := by simp; omega
 have q7 : (x.op == 7) = false := by simp; omega
 have q8 : (x.op == 8) = false := by simp; omega
 have q9 : (x.op == 9) = false := by simp; omega
 have q10 : (x.op == 10) = false := by simpa using o3
 have q11 : (x.op == 11) = false := by simpa using o4
 have q12 : (x.op == 12) = false := by simpa using o5
 rw [HR.out]
 clear HP HR HE HES hln o1 o2 o3 o4 o5
 go_enter Tryz.func160, Tryz.ntmps160
 go_upto_region 2 with fail
 rw [← HW1.out]
 clear HW1
 generalize w.heap.size + 1 + 1 = b3 at HB3 ⊢
 generalize w.heap.size + 1 = b2 at HB2 HB3 ⊢
 generalize w.heap.size = b1 at HB1 ⊢
 obtain ⟨x0, x1, x2, x3, x4, x5, x6, x7, x8⟩ := boxPr HB1.out
 obtain ⟨y0, _⟩ := cells1 HB2.out
 obtain ⟨z0, _⟩ := cells1 HB3.out
 go_wp2_with fail
 go_ret
 exact ⟨rfl, HK1.out⟩
end Go.Proofs.YtgljdkjepdknnaaGreatDoor
