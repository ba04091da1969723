/- IndexFunc, ContainsFunc over rows; all of some rows; is a row one of some. -/
import Derived.Test.YtgljdkjepdknnaaGreatDoorMR8
namespace Go.Proofs.YtgljdkjepdknnaaGreatDoor
open Go.ChangeShapes Go.WideShapes Go.ChangeAt Go.RowKit
set_option maxRecDepth 100000
set_option linter.unusedSimpArgs false

/-- the function of a value says p of this row, wherever it lies, in every world in which what was there stands -/
def PredR (F : Nat) (caps : Array Value) (w : World) (r : List Val) (p : Bool) : Prop := Enters Tryz.prog F ∧ ∀ W hv, Kept (fun _ => False) w W → RowRd W hv r → Calls Tryz.prog F (#[hv] ++ caps) W fun e W' => e = .returned (.bool p) ∧ Kept (fun _ => False) W W'
theorem PredR.kept {F : Nat} {caps : Array Value} {w w' : World} {r : List Val} {p : Bool} (h : PredR F caps w r p) (k : Kept (fun _ => False) w w') : PredR F caps w' r p := ⟨h.1, fun W hv hW hr => h.2 W hv (k.trans hW (fun _ h => h.elim)) hr⟩
theorem rowAtR {w : World} {ao : Option Addr} {N cap j : Nat} {rs : List (List Val)} {r : List Val} (h : RowsRd w (.slice ao N cap) rs) (hr : rs[j]? = some r) :
  ∃ g o ra rc, ao = some ⟨g, o, none⟩ ∧ w.cell? ⟨g, o + j, none⟩ = some (.slice ra r.length rc) ∧ RowRd w (.slice ra r.length rc) r ∧ r.length ≤ 9223372036854775807 ∧ r.length ≤ rc := by
 obtain ⟨hs, h1, h2, h3⟩ := h
 have hlt : j < rs.length := (List.getElem?_eq_some_iff.1 hr).1
 obtain ⟨hv, hhv⟩ : ∃ hv, hs[j]? = some hv := ⟨hs[j]'(by omega), List.getElem?_eq_getElem (by omega)⟩
 obtain ⟨_, _, ao', cap', hvv, _, _, _, hc⟩ := h2
 cases hvv
 have hrd := h3 j hv r hhv hr
 obtain ⟨_, hml, ra, rc, rfl, hrc, _⟩ := id hrd
 unfold maxLen at hml
 rcases hc with h0 | ⟨g, o, rfl, hc⟩
 ·omega
 ·exact ⟨g, o, ra, rc, rfl, hc j _ hhv, hrd, by omega, hrc⟩
theorem RowsRd.shape {w : World} {v : Value} {rs : List (List Val)} (h : RowsRd w v rs) : ∃ ao cap, v = .slice ao rs.length cap ∧ rs.length ≤ cap ∧ rs.length ≤ 9223372036854775807 ∧ cap ≤ 9223372036854775807 := by
 obtain ⟨hs, h1, h2, h3⟩ := h
 obtain ⟨_, hml, ao, cap, hv, hnc, hcm, _⟩ := h2
 unfold maxLen at hml hcm
 exact ⟨ao, cap, hv, hnc, by omega, by omega⟩
set_option maxHeartbeats 1000000 in
theorem indexFunc_R {w : World} {v : Value} {xs : List (List Val)} {F : Nat} {caps : Array Value} (p : List Val → Bool) (hrd : RowsRd w v xs) (HF : ∀ x ∈ xs, PredR F caps w x (p x)) :
  Calls Tryz.prog 192 #[v, .func (.func F) #[] caps] w fun e w' => e = .returned (.int .i64 (idxI p xs)) ∧ Kept (fun _ => False) w w' := by
 obtain ⟨ao, cap, rfl, hnc, hml, hcm⟩ := hrd.shape
 have HRD := Lib.hid hrd
 have HFF := Lib.hid HF
 clear hrd HF
 obtain ⟨N, hN⟩ : ∃ N, xs.length = N := ⟨_, rfl⟩
 have HN := Lib.hid hN
 rw [hN] at HRD hml hnc ⊢
 clear hN
 go_enter Tryz.func192, Tryz.ntmps192
 go_wp2_with fail
 go_loopw [8] (fun i wr => ∃ j : Nat, i = .int .i64 j ∧ j ≤ N ∧ (∀ x ∈ xs.take j, p x = false) ∧ Kept (fun _ => False) w wr) (fun i _ => N - (intOf i).toNat)
 case atStart => exact ⟨0, rfl, by omega, fun x hx => by simp at hx, Kept.refl _ _⟩
 case round =>
  obtain ⟨j, rfl, hj, hp, hk⟩ := hrel
  have HP := Lib.hid hp
  have HK := Lib.hid hk
  clear hp hk
  by_cases hlt : j < N
  ·have hi : (j : Int) < (N : Int) := by omega
   obtain ⟨x, hx⟩ : ∃ x, xs[j]? = some x := ⟨xs[j]'(by rw [HN.out]; exact hlt), List.getElem?_eq_getElem _⟩
   obtain ⟨g, o, ra, rc, rfl, hcell, hrow, hrl, hrc⟩ := rowAtR (HRD.out.kept HK.out) hx
   have HX := Lib.hid hx
   obtain ⟨hent, hcall⟩ := HFF.out x (List.mem_of_getElem? hx)
   unfold Enters at hent
   have HC := Lib.hid (hcall wr _ HK.out hrow)
   clear hx hrow hcall
   generalize x.length = xl at *
   cases hpx : p x
   ·rw [hpx] at HC
    have HPX := Lib.hid hpx
    clear hpx
    go_wp2_with (refine HC.out.mono ?_; rintro e1 w1 ⟨rfl, hk1⟩; have HK1 := Lib.hid (HK.out.trans hk1 (fun _ h => h.elim)); clear hk1 HC hcell)
    go_roundw
    case rel => exact ⟨j + 1, by go_num, by omega, mem_take_succ HP.out HX.out HPX.out, HK1.out⟩
    case measure => simp [intOf]; omega
   ·rw [hpx] at HC
    have HPX := Lib.hid hpx
    clear hpx
    go_wp2_with (refine HC.out.mono ?_; rintro e1 w1 ⟨rfl, hk1⟩; have HK1 := Lib.hid (HK.out.trans hk1 (fun _ h => h.elim)); clear hk1 HC hcell)
    go_ret
    exact ⟨by rw [idxI_at HP.out HX.out HPX.out]; rfl, HK1.out⟩
  ·have hi : ¬ ((j : Int) < (N : Int)) := by omega
   have he : idxI p xs = -1 := idxI_none (by have := HP.out; rwa [List.take_of_length_le (by rw [HN.out]; omega)] at this)
   have HE := Lib.hid he
   clear he
   go_wp2_with fail
   go_ret
   exact ⟨by rw [HE.out]; rfl, HK.out⟩
set_option maxHeartbeats 1000000 in
theorem containsFunc_R {w : World} {v : Value} {xs : List (List Val)} {F : Nat} {caps : Array Value} (p : List Val → Bool) (hrd : RowsRd w v xs) (HF : ∀ x ∈ xs, PredR F caps w x (p x)) :
  Calls Tryz.prog 161 #[v, .func (.func F) #[] caps] w fun e w' => e = .returned (.bool (xs.any p)) ∧ Kept (fun _ => False) w w' := by
 have H := Lib.hid (indexFunc_R p hrd HF)
 rw [← idxI_any]
 clear hrd HF
 generalize idxI p xs = k at *
 go_enter Tryz.func161, Tryz.ntmps161
 go_wp2_with (go_at_call 192; refine H.out.mono ?_; rintro e1 w1 ⟨rfl, hk1⟩; have HK1 := Lib.hid hk1; clear hk1 H)
 go_ret
 exact ⟨rfl, HK1.out⟩
set_option maxHeartbeats 1000000 in
theorem all1F {w : World} {b F : Nat} {caps : Array Value} {t : TypeId} {r : List Val} {p : Bool} (hb : w.heap[b]? = some (.cells #[.func (.func F) #[] caps] t (0, 0))) (h : PredR F caps w r p) : PredR 162 #[.pointer (some ⟨b, 0, none⟩)] w r (!p) := by
 refine ⟨enters_of Tryz.func162 (by kernel_rfl) rfl, fun W hv hW hr => ?_⟩
 obtain ⟨c0, _⟩ := cells1 (kept_blk hW hb)
 obtain ⟨hent, hcall⟩ := h.kept hW
 unfold Enters at hent
 have HC := Lib.hid (hcall W hv (Kept.refl _ _) hr)
 obtain ⟨_, _, ra, rc, rfl, _⟩ := hr
 clear hb hcall h
 show Calls Tryz.prog 162 #[.slice ra r.length rc, .pointer (some ⟨b, 0, none⟩)] W _
 generalize r.length = rl at *
 go_enter Tryz.func162, Tryz.ntmps162
 go_wp2_with (refine HC.out.mono ?_; rintro e1 w1 ⟨rfl, hk1⟩; have HK1 := Lib.hid hk1; clear hk1 HC c0)
 go_ret
 exact ⟨rfl, HK1.out⟩
theorem not_any_not {α : Type} (l : List α) (p : α → Bool) : (!(l.any (fun x => !p x))) = l.all p := by rw [List.any_eq_not_all_not, Bool.not_not]; congr 1; funext e; simp
set_option maxHeartbeats 1000000 in
theorem all_R {w : World} {v : Value} {xs : List (List Val)} {F : Nat} {caps : Array Value} (p : List Val → Bool) (hrd : RowsRd w v xs) (HF : ∀ x ∈ xs, PredR F caps w x (p x)) :
  Calls Tryz.prog 118 #[v, .func (.func F) #[] caps] w fun e w' => e = .returned (.bool (xs.all p)) ∧ Kept (fun _ => False) w w' := by
 obtain ⟨W1, hW1, hk1, hb1⟩ : ∃ W, W = w.alloc (.cells #[.func (.func F) #[] caps] 153) ∧ Kept (fun _ => False) w W ∧ W.heap[w.heap.size]? = some (.cells #[.func (.func F) #[] caps] 153 (0, 0)) := ⟨_, rfl, (Kept.refl _ _).alloc _, heap_alloc_self _ _⟩
 have HC := Lib.hid (containsFunc_R (fun x => !p x) (hrd.kept hk1) (fun x hx => all1F hb1 ((HF x hx).kept hk1)))
 rw [← not_any_not]
 have HW1 := Lib.hid hW1
 have HK1 := Lib.hid hk1
 obtain ⟨ao, cap, rfl, _⟩ := hrd.shape
 clear hW1 hk1 hb1 hrd HF
 generalize (xs.any fun x => !p x) = r at *
 go_enter Tryz.func118, Tryz.ntmps118
 go_upto_region 1 with fail
 rw [← HW1.out]
 clear HW1
 generalize w.heap.size = b1 at *
 go_wp2_with (go_at_call 161; refine HC.out.mono ?_; rintro e1 w1 ⟨rfl, hk2⟩; have HK2 := Lib.hid (HK1.out.trans hk2 (fun _ h => h.elim)); clear hk2 HC)
 go_ret
 exact ⟨rfl, HK2.out⟩
set_option maxHeartbeats 1000000 in
theorem in1F {w : World} {b : Nat} {t : TypeId} {v : Value} {y r : List Val} (hb : w.heap[b]? = some (.cells #[v] t (0, 0))) (hv : RowRd w v y) : PredR 163 #[.pointer (some ⟨b, 0, none⟩)] w r (decide (r = y)) := by
 refine ⟨enters_of Tryz.func163 (by kernel_rfl) rfl, fun W hr hW hrd => ?_⟩
 obtain ⟨c0, _⟩ := cells1 (kept_blk hW hb)
 have HC := Lib.hid (rowSame_ok hrd (hv.kept hW (fun _ _ h => h)))
 obtain ⟨_, _, ra, rc, rfl, _⟩ := hrd
 obtain ⟨_, _, va, vc, rfl, _⟩ := hv
 clear hb hW
 show Calls Tryz.prog 163 #[.slice ra r.length rc, .pointer (some ⟨b, 0, none⟩)] W _
 generalize decide (r = y) = rr at *
 generalize r.length = rl at *
 go_enter Tryz.func163, Tryz.ntmps163
 go_wp2_with (go_at_call 164; refine HC.out.mono ?_; rintro e1 w1 ⟨rfl, n, rfl⟩; clear HC c0)
 go_ret
 exact ⟨rfl, (Kept.refl _ _).drewN n⟩
set_option maxHeartbeats 1000000 in
theorem in_R {w : World} {v u : Value} {xs : List (List Val)} {y : List Val} (hrd : RowsRd w v xs) (hu : RowRd w u y) :
  Calls Tryz.prog 120 #[v, u] w fun e w' => e = .returned (.bool (imgIn xs y)) ∧ Kept (fun _ => False) w w' := by
 have HR := Lib.hid (show imgIn xs y = xs.any (fun x => decide (x = y)) from rfl)
 rw [HR.out]
 obtain ⟨_, _, ua, uc, rfl, _⟩ := id hu
 obtain ⟨W1, hW1, hk1, hb1⟩ : ∃ W, W = w.alloc (.cells #[.slice ua y.length uc] 91) ∧ Kept (fun _ => False) w W ∧ W.heap[w.heap.size]? = some (.cells #[.slice ua y.length uc] 91 (0, 0)) := ⟨_, rfl, (Kept.refl _ _).alloc _, heap_alloc_self _ _⟩
 have HC := Lib.hid (containsFunc_R (fun x => decide (x = y)) (hrd.kept hk1) (fun x _ => in1F hb1 (hu.kept hk1 (fun _ _ h => h))))
 have HW1 := Lib.hid hW1
 have HK1 := Lib.hid hk1
 obtain ⟨ao, cap, rfl, _⟩ := hrd.shape
 clear hW1 hk1 hb1 hrd hu HR
 generalize (xs.any fun x => decide (x = y)) = r at *
 generalize y.length = yl at *
 go_enter Tryz.func120, Tryz.ntmps120
 go_upto_region 1 with fail
 rw [← HW1.out]
 clear HW1
 generalize w.heap.size = b1 at *
 go_wp2_with (go_at_call 161; refine HC.out.mono ?_; rintro e1 w1 ⟨rfl, hk2⟩; have HK2 := Lib.hid (HK1.out.trans hk2 (fun _ h => h.elim)); clear hk2 HC)
 go_ret
 exact ⟨rfl, HK2.out⟩
end Go.Proofs.YtgljdkjepdknnaaGreatDoor
