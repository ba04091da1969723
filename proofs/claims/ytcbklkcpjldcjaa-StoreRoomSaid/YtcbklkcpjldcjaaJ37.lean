/- The document's answer for the store (ratlineref06): places; At, Get, fits. -/
import Derived.Test.YtcbklkcpjldcjaaJ36
namespace Go.Proofs.Ytcbklkcpjldcjaa
open Go.ChangeShapes Go.WideShapes Go.ChangeAt Go.RowKit
set_option maxRecDepth 100000
set_option linter.unusedSimpArgs false

abbrev tPl : TypeId := 95
abbrev tPls : TypeId := 54
abbrev tRf : TypeId := 56
/-- a place of the answer; the row's header -/
structure Pl where
  t : Int
  k : Val
  row : List Val
  ro : Option Addr
  rn : Nat
  rc : Nat
  num : Int
abbrev Pl.hv (p : Pl) : Value := .slice p.ro p.rn p.rc
def Pl.cells (p : Pl) : List Value := [.int .i64 p.t, .bool p.k.t, .int .i64 p.k.n, .string p.k.s, .slice p.ro p.rn p.rc, .int .i64 p.num]
theorem pl_len (p : Pl) : p.cells.length = 6 := rfl
theorem pl_one (p : Pl) : ∀ u ∈ p.cells, u.oneCell' = true := by intro u hu; simp [Pl.cells] at hu; rcases hu with rfl | rfl | rfl | rfl | rfl | rfl <;> rfl
abbrev PlRd (w : World) (v : Value) (L : List Pl) : Prop := Rd w 6 v L.length (L.flatMap Pl.cells)
abbrev plsP (v : Value) (L : List Pl) : HP := ownS tPl 6 v L.length (L.flatMap Pl.cells)
abbrev refV (tv : Value) (room : Int) (lv : Value) (last : Int) : Value := .agg #[tv, .int .i64 room, lv, .int .i64 last]
/-- rows and tables that all may read -/
abbrev RowD (D : PH) (v : Value) (r : List Val) : Prop := RdP D 3 v r.length (r.flatMap Val.cells)
def TabsD (D : PH) (v : Value) (cs : List (List Bool)) : Prop := ∃ hs : List Value, hs.length = cs.length ∧ (∀ u ∈ hs, u.oneCell' = true) ∧ RdP D 1 v cs.length hs ∧ ∀ (i : Nat) (h : Value) (c : List Bool), hs[i]? = some h → cs[i]? = some c → RdP D 1 h c.length (c.flatMap bcells)
theorem TabsD.rd {B w : World} {D : PH} {l : List HP} {v : Value} {cs : List (List Bool)} (h : TabsD D v cs) (hs : Sat B D w l) : TabsRd w v cs := by
  obtain ⟨x, h1, h2, h3, h4⟩ := h
  exact ⟨x, h1, h2, h3.rd hs, fun i u c h5 h6 => (h4 i u c h5 h6).rd hs⟩
theorem TabsD.shape {D : PH} {v : Value} {cs : List (List Bool)} (h : TabsD D v cs) : ∃ ao cap, v = .slice ao cs.length cap := by
  obtain ⟨x, h1, h2, h3, h4⟩ := h
  exact h3.shape
/-- the places' rows -/
def RowsD (D : PH) (L : List Pl) : Prop := ∀ p ∈ L, RowD D p.hv p.row

theorem pl_cells {w : World} {g og N cap k : Nat} {xs : List Pl} {x : Pl} (h : Rd w 6 (.slice (some ⟨g, og, none⟩) N cap) N (xs.flatMap Pl.cells)) (hx : xs[k]? = some x) :
    w.cell? ⟨g, og + k * 6, none⟩ = some (.int .i64 x.t) ∧ w.cell? ⟨g, og + k * 6 + 1, none⟩ = some (.bool x.k.t) ∧ w.cell? ⟨g, og + k * 6 + 2, none⟩ = some (.int .i64 x.k.n) ∧ w.cell? ⟨g, og + k * 6 + 3, none⟩ = some (.string x.k.s) ∧ w.cell? ⟨g, og + k * 6 + 4, none⟩ = some (.slice x.ro x.rn x.rc) ∧ w.cell? ⟨g, og + k * 6 + 5, none⟩ = some (.int .i64 x.num) := by
  have hlt := (List.getElem?_eq_some_iff.1 hx).1
  rcases h.2.2 with ⟨_, _, hv, _, _, _, hcell⟩
  cases hv
  rcases hcell with h0 | ⟨_, _, hg, hc⟩
  · have := h.1
    rw [flat_len pl_len] at this
    omega
  cases hg
  have f := fun j u hj => hc _ _ (flat_get pl_len xs k _ hx j u hj)
  have a0 := f 0 _ rfl
  have a1 := f 1 _ rfl
  have a2 := f 2 _ rfl
  have a3 := f 3 _ rfl
  have a4 := f 4 _ rfl
  have a5 := f 5 _ rfl
  rw [Nat.add_zero] at a0
  rw [← Nat.add_assoc] at a1 a2 a3 a4 a5
  exact ⟨a0, a1, a2, a3, a4, a5⟩
theorem pl_src {w : World} {ao : Option Addr} {N cap k : Nat} {xs : List Pl} {x : Pl} (h : Rd w 6 (.slice ao N cap) N (xs.flatMap Pl.cells)) (hx : xs[k]? = some x) (hl : xs.length = N) : ∃ g og, ao = some ⟨g, og, none⟩ := by
  have hlt := (List.getElem?_eq_some_iff.1 hx).1
  rcases h.2.2 with ⟨_, _, hv, _, _, _, hc⟩
  cases hv
  rcases hc with h0 | ⟨g, o, hg, _⟩
  · omega
  · exact ⟨g, o, hg⟩
/-- the first place at a key -/
def atP (t : Int) (k : Val) (p : Pl) : Bool := decide (p.t = t) && decide (p.k = k)
def atN (L : List Pl) (t : Int) (k : Val) : Int := match L.findIdx? (atP t k) with
  | some i => i
  | none => -1
theorem atN_at {L : List Pl} {t : Int} {k : Val} {i : Nat} {p : Pl} (h : ∀ x ∈ L.take i, atP t k x = false) (hp : L[i]? = some p) (hk : atP t k p = true) : atN L t k = i := by
  have hlt := (List.getElem?_eq_some_iff.1 hp).1
  have e : L.findIdx? (atP t k) = some i := by
    rw [List.findIdx?_eq_some_iff_getElem]
    rw [List.getElem?_eq_getElem hlt] at hp
    refine ⟨hlt, by rw [Option.some.inj hp]; exact hk, fun j hj => ?_⟩
    have hjl : j < L.length := by omega
    rw [h L[j] (List.mem_iff_getElem.2 ⟨j, by rw [List.length_take]; omega, List.getElem_take⟩)]
    simp
  unfold atN
  rw [e]
theorem atN_end {L : List Pl} {t : Int} {k : Val} (h : ∀ x ∈ L, atP t k x = false) : atN L t k = -1 := by
  have e : L.findIdx? (atP t k) = none := by
    rw [List.findIdx?_eq_none_iff]
    exact h
  unfold atN
  rw [e]
/-- where it is, and what stands there -/
theorem atN_cases (L : List Pl) (t : Int) (k : Val) : (atN L t k = -1 ∧ L.find? (atP t k) = none) ∨ ∃ (i : Nat) (p : Pl), atN L t k = i ∧ i < L.length ∧ L[i]? = some p ∧ L.find? (atP t k) = some p := by
  unfold atN
  cases h : L.findIdx? (atP t k) with
  | none =>
    rw [List.findIdx?_eq_none_iff] at h
    exact .inl ⟨rfl, List.find?_eq_none.2 (fun x hx => by rw [h x hx]; simp)⟩
  | some i =>
    rw [List.findIdx?_eq_some_iff_getElem] at h
    obtain ⟨h1, h2, h3⟩ := h
    refine .inr ⟨i, L[i], rfl, h1, List.getElem?_eq_getElem h1, ?_⟩
    rw [List.find?_eq_some_iff_getElem]
    exact ⟨h2, i, h1, rfl, fun j hj => by have := h3 j hj; simpa using this⟩
theorem mem_take_more {α : Type} {L : List α} {i : Nat} {p : α} {P : α → Prop} (h : ∀ x ∈ L.take i, P x) (hp : L[i]? = some p) (hP : P p) : ∀ x ∈ L.take (i + 1), P x := by
  intro x hx
  rw [List.take_add_one, hp] at hx
  rcases List.mem_append.1 hx with hx | hx
  · exact h x hx
  · simp at hx; subst hx; exact hP

set_option maxHeartbeats 4000000 in
theorem rAt_ok {w : World} {ta : Option Addr} {tn tc : Nat} {room last : Int} {lv : Value} {L : List Pl} (t : Int) (k : Val) (h : PlRd w lv L) :
    Calls Try.prog 45 #[refV (.slice ta tn tc) room lv last, .int .i64 t, k.v] w fun e w' => e = .returned (.int .i64 (atN L t k)) ∧ Kept (fun _ => False) w w' := by
  obtain ⟨_, m1, ao, cap, rfl, hcap, hcap2, hao, _⟩ := id h
  obtain ⟨wa, hwa⟩ : ∃ wa, wa = (w.alloc (.cells #[.slice ta tn tc, .int .i64 room, .slice ao L.length cap, .int .i64 last] tRf)).alloc (.cells #[.bool k.t, .int .i64 k.n, .string k.s] tV) := ⟨_, rfl⟩
  have hk1 : Kept (fun _ => False) w wa := by rw [hwa]; exact ((Kept.refl _ _).alloc _).alloc _
  have hb1 : wa.heap[w.heap.size]? = some (.cells #[.slice ta tn tc, .int .i64 room, .slice ao L.length cap, .int .i64 last] tRf (0, 0)) := by
    rw [hwa]
    exact (((Kept.refl (fun _ => False) (w.alloc (.cells #[.slice ta tn tc, .int .i64 room, .slice ao L.length cap, .int .i64 last] tRf))).alloc _).block _ (by simp) (fun h => h)).trans (heap_alloc_self w _)
  have hb2 : wa.heap[w.heap.size + 1]? = some (.cells #[.bool k.t, .int .i64 k.n, .string k.s] tV (0, 0)) := by
    rw [hwa]
    have := heap_alloc_self (w.alloc (.cells #[.slice ta tn tc, .int .i64 room, .slice ao L.length cap, .int .i64 last] tRf)) (.cells #[.bool k.t, .int .i64 k.n, .string k.s] tV)
    rw [World.size_alloc] at this
    exact this
  have HX := Lib.hid (Rd.kept h hk1 (fun _ _ h => h))
  have HK := Lib.hid hk1
  have HWA := Lib.hid hwa
  have HB1 := Lib.hid hb1
  have HB2 := Lib.hid hb2
  obtain ⟨N, hN⟩ : ∃ N, L.length = N := ⟨_, rfl⟩
  have HN := Lib.hid hN
  rw [hN] at m1 hcap HX HB1 HWA ⊢
  unfold maxLen at m1 hcap2
  clear h hk1 hwa hN hb1 hb2
  dsimp only [Val.v]
  go_enter Try.func45, Try.ntmps45
  go_upto_region 1 with (fail)
  rw [← HWA.out]
  clear HWA
  generalize w.heap.size + 1 = bk at HB2 ⊢
  generalize w.heap.size = bs at HB1 ⊢
  go_wp2_with fail
  go_loopw [7] (fun i wr => ∃ j : Nat, i = .int .i64 j ∧ j ≤ N ∧ (∀ x ∈ L.take j, atP t k x = false) ∧ ∃ n, wr = wa.drewN n) (fun i _ => N - (intOf i).toNat)
  case atStart => exact ⟨0, rfl, by omega, by simp, 0, rfl⟩
  case round =>
    obtain ⟨j, rfl, hj, hno, n0, rfl⟩ := hrel
    have HNO := Lib.hid hno
    clear hno
    obtain ⟨b0, b1, b2, b3, bf⟩ := cells4 HB1.out
    by_cases hlt : j < N
    · obtain ⟨p, hp⟩ : ∃ p, L[j]? = some p := ⟨L[j]'(by rw [HN.out]; exact hlt), List.getElem?_eq_getElem _⟩
      obtain ⟨g, og, rfl⟩ := pl_src HX.out hp HN.out
      obtain ⟨c0, c1, c2, c3, c4, c5⟩ := pl_cells HX.out hp
      obtain ⟨x0, x1, x2, xf⟩ := cells3 HB2.out
      have hi : (j : Int) < (N : Int) := by omega
      have HP := Lib.hid hp
      clear hp
      by_cases hpt : t = p.t
      · subst hpt
        by_cases hpk : p.k = k
        · have hv : valEqB p.k.t p.k.n p.k.s k.t k.n k.s = true := by rw [valEqB_val]; exact decide_eq_true hpk
          have HG := Lib.hid (atN_at HNO.out HP.out (show atP p.t k p = true by unfold atP; simp [hpk]))
          clear hpk
          go_wp2_with fail
          go_quiet (fail)
          go_wp2_with fail
          go_ret
          exact ⟨by rw [HG.out]; rfl, (HK.out.drewN _).drewN _⟩
        · have hv : valEqB p.k.t p.k.n p.k.s k.t k.n k.s = false := by rw [valEqB_val]; exact decide_eq_false hpk
          have HNO2 := Lib.hid (mem_take_more HNO.out HP.out (show atP p.t k p = false by unfold atP; simp [hpk]))
          clear hpk
          go_wp2_with fail
          go_quiet (fail)
          go_wp2_with fail
          go_roundw
          case rel => exact ⟨j + 1, by go_num, by omega, HNO2.out, _, rfl⟩
          case measure => simp [intOf]; omega
      · have HNO2 := Lib.hid (mem_take_more HNO.out HP.out (show atP t k p = false by unfold atP; simp [Ne.symm hpt]))
        have hpt' : ¬ (p.t = t) := fun h => hpt h.symm
        clear hpt
        go_wp2_with fail
        go_quiet (fail)
        go_wp2_with fail
        go_roundw
        case rel => exact ⟨j + 1, by go_num, by omega, HNO2.out, _, rfl⟩
        case measure => simp [intOf]; omega
    · have HG := Lib.hid (atN_end (L := L) (t := t) (k := k) (by have := HNO.out; rwa [List.take_of_length_le (by rw [HN.out]; omega)] at this))
      go_wp2_with fail
      go_ret
      exact ⟨by rw [HG.out]; rfl, HK.out.drewN _⟩

/-- what Get answers -/
def rgetV (L : List Pl) (t : Int) (k : Val) : Value := match L.find? (atP t k) with
  | some p => if p.rn = 0 then .tuple #[.slice none 0 0, .int .i64 0, .bool false] else .tuple #[p.hv, .int .i64 p.num, .bool true]
  | none => .tuple #[.slice none 0 0, .int .i64 0, .bool false]
theorem two_boxes (w : World) (c1 c2 : Array Value) (t1 t2 : TypeId) : ∃ wa, wa = (w.alloc (.cells c1 t1)).alloc (.cells c2 t2) ∧ Kept (fun _ => False) w wa ∧ wa.heap[w.heap.size]? = some (.cells c1 t1 (0, 0)) ∧ wa.heap[w.heap.size + 1]? = some (.cells c2 t2 (0, 0)) := by
  refine ⟨_, rfl, ((Kept.refl _ _).alloc _).alloc _, ?_, ?_⟩
  · exact (((Kept.refl (fun _ => False) (w.alloc (.cells c1 t1))).alloc _).block _ (by simp) (fun h => h)).trans (heap_alloc_self w _)
  · have := heap_alloc_self (w.alloc (.cells c1 t1)) (.cells c2 t2)
    rw [World.size_alloc] at this
    exact this

set_option maxHeartbeats 4000000 in
theorem rGet_ok {w : World} {ta : Option Addr} {tn tc : Nat} {room last : Int} {lv : Value} {L : List Pl} (t : Int) (k : Val) (h : PlRd w lv L) :
    Calls Try.prog 23 #[refV (.slice ta tn tc) room lv last, .int .i64 t, k.v] w fun e w' => e = .returned (rgetV L t k) ∧ Kept (fun _ => False) w w' := by
  obtain ⟨_, m1, ao, cap, rfl, hcap, hcap2, hao, _⟩ := id h
  obtain ⟨wa, hwa, hk1, hb1, hb2⟩ := two_boxes w #[.slice ta tn tc, .int .i64 room, .slice ao L.length cap, .int .i64 last] #[.bool k.t, .int .i64 k.n, .string k.s] tRf tV
  have HX := Lib.hid (Rd.kept h hk1 (fun _ _ h => h))
  have HAT := Lib.hid (rAt_ok (ta := ta) (tn := tn) (tc := tc) (room := room) (last := last) t k HX.out)
  have HK := Lib.hid hk1
  have HWA := Lib.hid hwa
  have HB1 := Lib.hid hb1
  have HB2 := Lib.hid hb2
  obtain ⟨N, hN⟩ : ∃ N, L.length = N := ⟨_, rfl⟩
  have HN := Lib.hid hN
  rw [hN] at m1 hcap HX HB1 HWA HAT ⊢
  unfold maxLen at m1 hcap2
  clear h hk1 hwa hN hb1 hb2
  dsimp only [Val.v] at HAT ⊢
  go_enter Try.func23, Try.ntmps23
  go_upto_region 1 with (fail)
  rw [← HWA.out]
  clear HWA
  generalize w.heap.size + 1 = bk at HB2 ⊢
  generalize w.heap.size = bs at HB1 ⊢
  obtain ⟨b0, b1, b2, b3, bf⟩ := cells4 HB1.out
  obtain ⟨x0, x1, x2, xf⟩ := cells3 HB2.out
  rcases atN_cases L t k with ⟨ha, hf⟩ | ⟨i, p, ha, hi, hp, hf⟩
  · have HA := Lib.hid ha
    have HF := Lib.hid (show rgetV L t k = .tuple #[.slice none 0 0, .int .i64 0, .bool false] by unfold rgetV; rw [hf])
    clear ha hf
    go_wp2_with (go_at_call 45; refine HAT.out.mono ?_; clear HAT; rw [HA.out]; rintro e1 w1 ⟨rfl, hk1⟩; have HK1 := Lib.hid (HK.out.trans hk1 (fun _ h => h.elim)); clear hk1 b0 b1 b2 b3 bf x0 x1 x2 xf)
    go_ret3
    rw [HF.out]
    exact ⟨rfl, HK1.out⟩
  · have HA := Lib.hid ha
    have HP := Lib.hid hp
    have hi0 : ¬ ((i : Int) < 0) := by omega
    have hi1 : (i : Int) < (N : Int) := by have := HN.out; omega
    obtain ⟨g, og, rfl⟩ := pl_src HX.out hp HN.out
    have HF := Lib.hid hf
    clear ha hf hp hi
    go_upto_region 2 with (go_at_call 45; refine HAT.out.mono ?_; clear HAT; rw [HA.out]; rintro e1 w1 ⟨rfl, hk1⟩; have HK1 := Lib.hid (HK.out.trans hk1 (fun _ h => h.elim)); have HX1 := Lib.hid (Rd.kept HX.out hk1 (fun _ _ h => h)); have HC1 := Lib.hid ((hk1.block _ (lt_of_heap HB1.out) (fun h => h)).trans HB1.out); clear hk1 b0 b1 b2 b3 bf x0 x1 x2 xf)
    obtain ⟨b0, b1, b2, b3, bf⟩ := cells4 HC1.out
    obtain ⟨c0, c1, c2, c3, c4, c5⟩ := pl_cells HX1.out HP.out
    by_cases hz : p.rn = 0
    · have HR := Lib.hid (show rgetV L t k = .tuple #[.slice none 0 0, .int .i64 0, .bool false] by unfold rgetV; rw [HF.out]; exact if_pos hz)
      rw [hz] at c4
      clear hz
      go_wp2_with fail
      go_ret3
      rw [HR.out]
      exact ⟨rfl, HK1.out⟩
    · have HR := Lib.hid (show rgetV L t k = .tuple #[p.hv, .int .i64 p.num, .bool true] by unfold rgetV; rw [HF.out]; exact if_neg hz)
      have hz' : ((p.rn : Int) == 0) = false := by simp; omega
      clear hz
      go_upto_region 4 with (fail)
      go_quiet (fail)
      go_wp2_with fail
      go_ret3
      rw [HR.out]
      exact ⟨rfl, HK1.out.drewN _⟩

/-- is there the table, and does the row fit -/
def fitsR (cs : List (List Bool)) (t : Int) (r : List Val) : Bool := decide (0 ≤ t) && decide (t < (cs.length : Int)) && fitsT (cs.getD t.toNat []) r
set_option maxHeartbeats 4000000 in
theorem rFitsS_ok {w : World} {tv : Value} {cs : List (List Bool)} {lo : Option Addr} {ln lc : Nat} {room last : Int} {rv : Value} {r : List Val} (t : Int) (hT : TabsRd w tv cs) (hr : RowRd w rv r) :
    Calls Try.prog 59 #[refV tv room (.slice lo ln lc) last, .int .i64 t, rv] w fun e w' => e = .returned (.bool (fitsR cs t r)) ∧ Kept (fun _ => False) w w' := by
  obtain ⟨ta, tc, rfl⟩ : ∃ ta tc, tv = .slice ta cs.length tc := by obtain ⟨_, _, _, ⟨_, _, ta, tc, hv, _⟩, _⟩ := id hT; exact ⟨ta, tc, hv⟩
  have hk1 : Kept (fun _ => False) w (w.alloc (.cells #[.slice ta cs.length tc, .int .i64 room, .slice lo ln lc, .int .i64 last] tRf)) := (Kept.refl _ _).alloc _
  have hb1 : (w.alloc (.cells #[.slice ta cs.length tc, .int .i64 room, .slice lo ln lc, .int .i64 last] tRf)).heap[w.heap.size]? = some (.cells #[.slice ta cs.length tc, .int .i64 room, .slice lo ln lc, .int .i64 last] tRf (0, 0)) := heap_alloc_self w _
  have HT := Lib.hid (show TabsRd (w.alloc (.cells #[.slice ta cs.length tc, .int .i64 room, .slice lo ln lc, .int .i64 last] tRf)) (.slice ta cs.length tc) cs by
    obtain ⟨hs, q1, q2, q3, q4⟩ := hT
    exact ⟨hs, q1, q2, Rd.kept q3 hk1 (fun _ _ h => h), fun i u c h5 h6 => Rd.kept (q4 i u c h5 h6) hk1 (fun _ _ h => h)⟩)
  have HR := Lib.hid (Rd.kept hr hk1 (fun _ _ h => h))
  have HK1 := Lib.hid hk1
  have HB1 := Lib.hid hb1
  clear hk1 hb1 hT hr
  go_enter Try.func59, Try.ntmps59
  go_upto_region 1 with (fail)
  obtain ⟨W, hW⟩ : ∃ W, W = w.alloc (.cells #[.slice ta cs.length tc, .int .i64 room, .slice lo ln lc, .int .i64 last] tRf) := ⟨_, rfl⟩
  rw [← hW] at HT HR HK1 HB1 ⊢
  generalize w.heap.size = bt at HB1 ⊢
  clear hW
  obtain ⟨b0, b1, b2, b3, bf⟩ := cells4 HB1.out
  by_cases h0 : t < 0
  · have HF := Lib.hid (show fitsR cs t r = false by unfold fitsR; simp [show ¬ (0 ≤ t) by omega])
    go_wp2_with fail
    go_ret
    rw [HF.out]
    exact ⟨rfl, HK1.out⟩
  by_cases h1 : t < (cs.length : Int)
  · obtain ⟨j, rfl⟩ : ∃ j : Nat, t = j := ⟨t.toNat, by omega⟩
    have hj : j < cs.length := by omega
    obtain ⟨c, hc⟩ : ∃ c, cs[j]? = some c := ⟨cs[j], List.getElem?_eq_getElem hj⟩
    obtain ⟨g, og, o, cp, rfl, hcell, hcol⟩ := HT.out.at hc
    have HFT := Lib.hid (rfits_ok hcol HR.out)
    have h2 : ¬ ((cs.length : Int) ≤ (j : Int)) := by omega
    have he : cs.getD (j : Int).toNat [] = c := by rw [Int.toNat_natCast, List.getD_eq_getElem?_getD, hc]; rfl
    have HF := Lib.hid (show fitsR cs j r = fitsT c r by unfold fitsR; rw [he]; simp [hj])
    clear he
    clear hc hcol hj
    go_wp2_with (go_at_call 12; refine HFT.out.mono ?_; rintro e1 w1 ⟨rfl, hk1⟩; have HK2 := Lib.hid hk1; clear hk1 b0 b1 b2 b3 bf hcell)
    go_ret
    rw [HF.out]
    exact ⟨rfl, HK1.out.trans HK2.out (fun _ h => h.elim)⟩
  · have HF := Lib.hid (show fitsR cs t r = false by unfold fitsR; simp [h1])
    have h2 : (cs.length : Int) ≤ t := by omega
    go_wp2_with fail
    go_ret
    rw [HF.out]
    exact ⟨rfl, HK1.out⟩
end Go.Proofs.Ytcbklkcpjldcjaa
