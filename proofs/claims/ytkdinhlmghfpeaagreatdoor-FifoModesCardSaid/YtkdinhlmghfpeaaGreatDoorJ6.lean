/- Joined texts: Entries of a queue of modes in memory. (printed by genq.py) IndexFunc, ContainsFunc over a queue's entries. (printed by genq.py) DeleteFunc over a queue's entries. (printed by genq.py) The queue's functions of entries: whose an entry is. (printed by genq.py) A queue in memory; who waits. (printed by genq.py) -/
import Derived.Test.YtkdinhlmghfpeaaGreatDoorJ2
/- Entries of a queue of modes in memory. (printed by genq.py) -/
namespace Go.Proofs.YtkdinhlmghfpeaaGreatDoor
open Go.ChangeShapes Go.WideShapes Go.ChangeAt Go.RowKit
set_option maxRecDepth 100000
set_option linter.unusedSimpArgs false


abbrev tEnM : TypeId := 74
abbrev tQM : TypeId := 71
abbrev entM (e : Ent Int) : Ent Int := e
abbrev cvM (c : Int) : Value := .int .i64 c
abbrev ccM (c : Int) : Array Value := #[.int .i64 c]
abbrev cdM (c : Int) : Int := c
abbrev OkM (_ : PH) (_ : Ent Int) : Prop := True
def cellsM (e : Ent Int) : List Value := [.int .i64 e.o, .int .i64 e.c, .bool e.more]
theorem lenM (e : Ent Int) : (cellsM e).length = 3 := rfl
theorem oneM (e : Ent Int) : ∀ u ∈ cellsM e, u.oneCell' = true := by intro u hu; simp [cellsM] at hu; rcases hu with rfl | rfl | rfl <;> rfl
theorem moreM {w : World} {g o : Nat} {e : Ent Int} (h : w.rangeAt g o (cellsM e)) : w.cell? ⟨g, o + 2, none⟩ = some (.bool e.more) := h 2 _ rfl
abbrev mkM (o : Int) (c : Int) (b : Bool) : Ent Int := ⟨o, c, b⟩
abbrev lessM (e : Ent Int) : Ent Int := e.less
theorem less_arrM (e : Ent Int) : (cellsM e).set 2 (.bool false) = cellsM (lessM e) := rfl
@[go_sem] theorem sizeM (e : Ent Int) : (cellsM e).toArray.size = 3 := rfl
theorem loadM {w : World} {g o : Nat} {e : Ent Int} (h : w.rangeAt g o (cellsM e)) : (loadVar tEnM ⟨g, o, none⟩).run Tryz.prog w = .ok (.agg (cellsM e).toArray) w := run_loadVar_mid w g o _ _ _ h Tryz.underlying74 rfl (by kernel_rfl)
theorem boxM {w : World} {b : Nat} {e : Ent Int} {t : TypeId} {fr : Nat × Nat} (h : w.heap[b]? = some (.cells (cellsM e).toArray t fr)) : w.cell? ⟨b, 0, none⟩ = some (.int .i64 e.o) ∧ w.cell? ⟨b, 1, none⟩ = some (.int .i64 e.c) ∧ w.cell? ⟨b, 2, none⟩ = some (.bool e.more) := by
  refine ⟨?_, ?_, ?_⟩ <;> simp [World.cell?, h, cellsM]
end Go.Proofs.YtkdinhlmghfpeaaGreatDoor

/- IndexFunc, ContainsFunc over a queue's entries. (printed by genq.py) -/
namespace Go.Proofs.YtkdinhlmghfpeaaGreatDoor
open Go.ChangeShapes Go.WideShapes Go.ChangeAt Go.RowKit
set_option maxRecDepth 100000
set_option linter.unusedSimpArgs false


set_option maxHeartbeats 1000000 in
theorem indexFunc_M {w : World} {v : Value} {xs : List (Ent Int)} {F : Nat} {caps : Array Value} (p : Ent Int → Bool) (hrd : Rd w 3 v xs.length (xs.flatMap cellsM)) (HF : ∀ x ∈ xs, PredF F caps w (cellsM x) (p x)) :
    Calls Tryz.prog 86 #[v, .func (.func F) #[] caps] w fun e w' => e = .returned (.int .i64 (idxI p xs)) ∧ Kept (fun _ => False) w w' := by
  obtain ⟨_, hml, ao, cap, rfl, hnc, hcm, _⟩ := id hrd
  unfold maxLen at hml hcm
  have HRD := Lib.hid hrd
  have HFF := Lib.hid HF
  clear hrd HF
  obtain ⟨N, hN⟩ : ∃ N, xs.length = N := ⟨_, rfl⟩
  have HN := Lib.hid hN
  rw [hN] at HRD hml hnc ⊢
  clear hN
  go_enter Tryz.func86, Tryz.ntmps86
  go_wp2_with fail
  go_loopw [8] (fun i wr => ∃ j : Nat, i = .int .i64 j ∧ j ≤ N ∧ (∀ x ∈ xs.take j, p x = false) ∧ Kept (fun _ => False) w wr) (fun i _ => N - (intOf i).toNat)
  case atStart => exact ⟨0, rfl, by omega, fun x hx => by simp at hx, Kept.refl _ _⟩
  case round =>
    obtain ⟨j, rfl, hj, hp, hk⟩ := hrel
    have HP := Lib.hid hp
    have HK := Lib.hid hk
    clear hp hk
    by_cases hlt : j < N
    · have hi : (j : Int) < (N : Int) := by omega
      obtain ⟨x, hx⟩ : ∃ x, xs[j]? = some x := ⟨xs[j]'(by rw [HN.out]; exact hlt), List.getElem?_eq_getElem _⟩
      obtain ⟨g, o, rfl, hrng⟩ := elem_range lenM (HRD.out.kept HK.out (fun _ _ h => h)) hx HN.out
      have HL := Lib.hid (loadM hrng)
      have HX := Lib.hid hx
      obtain ⟨hent, hcall⟩ := HFF.out x (List.mem_of_getElem? hx)
      unfold Enters at hent
      have HC := Lib.hid (hcall wr HK.out)
      clear hx hrng hcall
      cases hpx : p x
      · rw [hpx] at HC
        have HPX := Lib.hid hpx
        clear hpx
        go_wp2_with (first | (refine wpList_ld rfl _ _ rfl _ _ rfl _ HL.out ?_) | (refine HC.out.mono ?_; rintro e1 w1 ⟨rfl, hk1⟩; have HK1 := Lib.hid (HK.out.trans hk1 (fun _ h => h.elim)); clear hk1 HC HL))
        go_roundw
        case rel => exact ⟨j + 1, by go_num, by omega, mem_take_succ HP.out HX.out HPX.out, HK1.out⟩
        case measure => simp [intOf]; omega
      · rw [hpx] at HC
        have HPX := Lib.hid hpx
        clear hpx
        go_wp2_with (first | (refine wpList_ld rfl _ _ rfl _ _ rfl _ HL.out ?_) | (refine HC.out.mono ?_; rintro e1 w1 ⟨rfl, hk1⟩; have HK1 := Lib.hid (HK.out.trans hk1 (fun _ h => h.elim)); clear hk1 HC HL))
        go_ret
        exact ⟨by rw [idxI_at HP.out HX.out HPX.out]; rfl, HK1.out⟩
    · have hi : ¬ ((j : Int) < (N : Int)) := by omega
      have he : idxI p xs = -1 := idxI_none (by have := HP.out; rwa [List.take_of_length_le (by rw [HN.out]; omega)] at this)
      have HE := Lib.hid he
      clear he
      go_wp2_with fail
      go_ret
      exact ⟨by rw [HE.out]; rfl, HK.out⟩
set_option maxHeartbeats 1000000 in
theorem containsFunc_M {w : World} {v : Value} {xs : List (Ent Int)} {F : Nat} {caps : Array Value} (p : Ent Int → Bool) (hrd : Rd w 3 v xs.length (xs.flatMap cellsM)) (HF : ∀ x ∈ xs, PredF F caps w (cellsM x) (p x)) :
    Calls Tryz.prog 120 #[v, .func (.func F) #[] caps] w fun e w' => e = .returned (.bool (xs.any p)) ∧ Kept (fun _ => False) w w' := by
  have H := Lib.hid (indexFunc_M p hrd HF)
  rw [← idxI_any]
  clear hrd HF
  generalize idxI p xs = k at *
  go_enter Tryz.func120, Tryz.ntmps120
  go_wp2_with (go_at_call 86; refine H.out.mono ?_; rintro e1 w1 ⟨rfl, hk1⟩; have HK1 := Lib.hid hk1; clear hk1 H)
  go_ret
  exact ⟨rfl, HK1.out⟩
end Go.Proofs.YtkdinhlmghfpeaaGreatDoor

/- DeleteFunc over a queue's entries. (printed by genq.py) -/
namespace Go.Proofs.YtkdinhlmghfpeaaGreatDoor
open Go.ChangeShapes Go.WideShapes Go.ChangeAt Go.RowKit
set_option maxRecDepth 100000
set_option linter.unusedSimpArgs false


theorem zone_M : ∀ u ∈ (Value.agg #[.int .i64 0, .int .i64 0, .bool false]).cells.toList, u.oneCell' = true := by intro u hu; simp [Value.cells] at hu; rcases hu with rfl | rfl | rfl <;> rfl
theorem zeroV_M (w : World) : (zeroValue tEnM).run Tryz.prog w = .ok (.agg #[.int .i64 0, .int .i64 0, .bool false]) w := Tryz.zeroValue74 w
set_option maxHeartbeats 4000000 in
theorem deleteFunc_M {B w : World} {D : PH} {l : List HP} {v : Value} {n : Nat} {xs : List (Ent Int)} {F : Nat} {caps : Array Value} (p : Ent Int → Bool) (hn : xs.length = n) (hent : Enters Tryz.prog F) (hs : Sat B D w (ownS tEnM 3 v n (xs.flatMap cellsM) :: l))
    (HF : ∀ x ∈ xs, PredS B D l F caps (cellsM x) (p x)) :
    Calls Tryz.prog 90 #[v, .func (.func F) #[] caps] w fun e w' => ∃ v', e = .returned v' ∧ Sat B D w' (ownS tEnM 3 v' (xs.filter (fun x => !p x)).length ((xs.filter (fun x => !p x)).flatMap cellsM) :: l) := by
  have hle := (hs.own 0 rfl).le
  obtain ⟨ao, cap, rfl, hnc, hcm, _⟩ := (hs.own 0 rfl).rd.2.2
  have hcm' := hcm
  unfold maxLen at hle hcm
  have HCM := Lib.hid hcm'
  have HN := Lib.hid hn
  have HIDX := Lib.hid (indexFunc_M p (by rw [hn]; exact (hs.own 0 rfl).rd) (fun x hx => ⟨hent, fun W hW => HF x hx W [_] (hs.kept hW)⟩))
  have HS := Lib.hid hs
  have HFF := Lib.hid HF
  have HENT := Lib.hid hent
  clear hs HF hn hent hcm'
  by_cases hall : ∀ y ∈ xs, p y = false
  · have hi := idxI_none hall
    rw [hi] at HIDX
    have hfil : xs.filter (fun x => !p x) = xs := List.filter_eq_self.2 (fun x hx => by simp [hall x hx])
    have HFIL := Lib.hid hfil
    clear hall hi hfil
    go_enter Tryz.func90, Tryz.ntmps90
    go_wp2_with (go_at_call 86; refine HIDX.out.mono ?_; rintro e1 w1 ⟨rfl, hk1⟩; have HS1 := Lib.hid (HS.out.kept hk1); clear hk1 HS HIDX)
    go_ret
    exact ⟨_, rfl, by rw [HFIL.out, HN.out]; exact HS1.out⟩
  have hex : ∃ (m : Nat) (x : Ent Int), xs[m]? = some x ∧ p x = true ∧ ∀ y ∈ xs.take m, p y = false := by
    cases hf : xs.findIdx? p with
    | none => exact absurd (List.findIdx?_eq_none_iff.1 hf) hall
    | some m =>
      obtain ⟨hlt, h1, h2⟩ := List.findIdx?_eq_some_iff_getElem.1 hf
      refine ⟨m, xs[m], List.getElem?_eq_getElem hlt, h1, fun y hy => ?_⟩
      obtain ⟨i, hi, rfl⟩ := List.mem_take_iff_getElem.1 hy
      have := h2 i (by omega)
      simpa using this
  obtain ⟨m, x0, hx0, hpx0, hbef⟩ := hex
  have hi := idxI_at hbef hx0 hpx0
  rw [hi] at HIDX
  have hm : m < n := by have := (List.getElem?_eq_some_iff.1 hx0).1; rw [HN.out] at this; exact this
  have hfm : (xs.take m).filter (fun x => !p x) = xs.take m := List.filter_eq_self.2 (fun x hx => by simp [hbef x hx])
  have hf0 : (xs.take (m + 1)).filter (fun x => !p x) = xs.take m := by rw [filter_take_no (q := fun x => !p x) hx0 (by simp [hpx0]), hfm]
  have HF0 := Lib.hid hf0
  clear hall hi hbef hx0 hpx0 hfm hf0
  have hw1 : IntKind.i64.wrap ((m : Int) + 1) = (m : Int) + 1 := IntWalk.i64_in _ (by omega)
  have hq1 : ((m : Int) == -1) = false := by simp
  obtain ⟨g, rfl⟩ : ∃ g, ao = some ⟨g, 0, none⟩ := by
    rcases (HS.out.own 0 rfl).2.2 with ⟨h1, h2⟩ | ⟨g, c2, cur, h1, _⟩
    · omega
    · cases h1; exact ⟨g, rfl⟩
  go_enter Tryz.func90, Tryz.ntmps90
  go_wp2_with (go_at_call 86; refine HIDX.out.mono ?_; rintro e1 w1 ⟨rfl, hk1⟩; have HS1 := Lib.hid (HS.out.kept hk1); clear hk1 HS HIDX)
  clear hw1 hq1
  go_loopw [5, 6] (fun ki ji wr => ∃ (i j : Nat) (ys : List (Ent Int)), ki = .int .i64 i ∧ ji = .int .i64 j ∧ i < j ∧ j ≤ n ∧ ys.length = n ∧ ys.take i = (xs.take j).filter (fun x => !p x) ∧ ys.drop j = xs.drop j ∧ Sat B D wr (ownS tEnM 3 (.slice (some ⟨g, 0, none⟩) n cap) n (ys.flatMap cellsM) :: l)) (fun _ ji _ => n - (intOf ji).toNat)
  case atStart => exact ⟨m, m + 1, xs, rfl, by go_num, by omega, by omega, HN.out, HF0.out.symm, rfl, HS1.out⟩
  case round =>
    obtain ⟨i, j, ys, rfl, rfl, hij, hj, hyl, hyt, hyd, hs2⟩ := hrel
    have HYL := Lib.hid hyl
    have HYT := Lib.hid hyt
    have HYD := Lib.hid hyd
    have HS2 := Lib.hid hs2
    clear hyl hyt hyd hs2 HS1
    by_cases hlt : j < n
    · have hji : (j : Int) < (n : Int) := by omega
      obtain ⟨x, hx⟩ : ∃ x, xs[j]? = some x := ⟨xs[j]'(by rw [HN.out]; exact hlt), List.getElem?_eq_getElem _⟩
      have hyx : ys[j]? = some x := by
        have h1 := congrArg (fun L => L[0]?) HYD.out
        simp only [List.getElem?_drop, Nat.add_zero] at h1
        rw [h1, hx]
      obtain ⟨g', o', hg', hrng⟩ := elem_range lenM (HS2.out.own 0 rfl).rd hyx HYL.out
      obtain ⟨rfl, rfl⟩ : g = g' ∧ 0 = o' := by cases hg'; exact ⟨rfl, rfl⟩
      rw [Nat.zero_add] at hrng
      have HL := Lib.hid (loadM hrng)
      clear hg' hrng hyx
      have HX := Lib.hid hx
      have hmem := List.mem_of_getElem? hx
      have HS3 := Lib.hid (HS2.out.alloc (cellsM x).toArray tEnM)
      clear hx
      go_upto_region 8 with (first | (refine wpList_ld rfl _ _ rfl _ _ rfl _ HL.out ?_) | (refine wpList_store_new rfl _ _ _ rfl (cellsM x) _ _ rfl rfl (by kernel_rfl) rfl (oneM x) ?_))
      clear HL HS2
      obtain ⟨W3, hW3, hs3⟩ := Sat.hide HS3.out
      rw [← hW3]
      clear hW3 HS3
      generalize wr.heap.size = bx at hs3 ⊢
      have HL := Lib.hid (loadM (blk_range (hs3.blk 0 rfl)))
      have HC := Lib.hid (HFF.out x hmem W3 [_, _] hs3)
      have HS3 := Lib.hid hs3
      clear hs3 hmem
      have hent := HENT.out
      unfold Enters at hent
      cases hpx : p x
      · rw [hpx] at HC
        have HPX := Lib.hid (filter_take_yes (q := fun x => !p x) HX.out (by simp [hpx]))
        clear hpx
        have hw2 : IntKind.i64.wrap ((i : Int) + 1) = (i : Int) + 1 := IntWalk.i64_in _ (by omega)
        have hin : i < n := by omega
        go_upto_region 9 with (first | (refine wpList_ld rfl _ _ rfl _ _ rfl _ HL.out ?_) | (refine HC.out.mono ?_; rintro e1 w1 ⟨rfl, hk1⟩; have HS4 := Lib.hid (HS3.out.kept hk1); clear hk1 HC HL HS3))
        clear hent
        have HL := Lib.hid (loadM (blk_range (HS4.out.blk 0 rfl)))
        go_wp2_with (first | (refine wpList_ld rfl _ _ rfl _ _ rfl _ HL.out ?_) | (refine wpList_store_elem lenM oneM rfl _ _ _ rfl tEnM g _ i n cap rfl (by omega) x rfl ys HS4.out.swap (by kernel_rfl) hin HYL.out ?_; intro w5 hs5; have HS5 := Lib.hid hs5; clear hs5 HS4 HL))
        go_roundw
        case rel =>
          refine ⟨i + 1, j + 1, ys.set i x, by go_num, by go_num, by omega, by omega, by rw [List.length_set]; exact HYL.out, ?_, ?_, HS5.out.swap.drop⟩
          · rw [HPX.out, ← HYT.out, take_set_succ (by rw [HYL.out]; exact hin)]
          · rw [List.drop_set, if_pos (by omega), ← List.drop_drop, HYD.out, List.drop_drop]
        case measure => simp [intOf]; omega
      · rw [hpx] at HC
        have HPX := Lib.hid (filter_take_no (q := fun x => !p x) HX.out (by simp [hpx]))
        clear hpx
        go_wp2_with (first | (refine wpList_ld rfl _ _ rfl _ _ rfl _ HL.out ?_) | (refine HC.out.mono ?_; rintro e1 w1 ⟨rfl, hk1⟩; have HS4 := Lib.hid (HS3.out.kept hk1); clear hk1 HC HL HS3))
        clear hent
        go_roundw
        case rel => exact ⟨i, j + 1, ys, rfl, by go_num, by omega, by omega, HYL.out, by rw [HPX.out, HYT.out], by rw [← List.drop_drop, HYD.out, List.drop_drop], HS4.out.drop⟩
        case measure => simp [intOf]; omega
    · have hji : ¬ ((j : Int) < (n : Int)) := by omega
      have hin : i < n := by omega
      have hb0 : (i : Int) ≤ (n : Int) := by omega
      have hb1 : (n : Int) ≤ (cap : Int) := by omega
      have hb2 : (i : Int) ≤ (cap : Int) := by omega
      have hb3 : i < cap := by omega
      have hb4 : ¬ (cap = i) := by omega
      have hfin : ys.take i = xs.filter (fun x => !p x) := by rw [HYT.out, List.take_of_length_le (by rw [HN.out]; omega)]
      have HFIN := Lib.hid hfin
      have HLEN := Lib.hid (show (xs.filter (fun x => !p x)).length = i by rw [← hfin, List.length_take, HYL.out]; omega)
      obtain ⟨cur, h4, _, _, hcz, hct, _, _⟩ := HS2.out.own_row
      have H4 := Lib.hid h4
      have HCT := Lib.hid hct
      have HONE := Lib.hid (HS2.out.own 0 rfl).2.1
      clear h4 hct HS2 hfin
      go_wp2_with (show wpList _ _ _ (⟨none, .call _, _, _, _, _⟩ :: _) _ _; refine wpList_clear_Sat _ rfl _ 69 rfl tEnM _ Tryz.underlying69 zeroV_M g _ (n - i) _ rfl cur H4.out (by omega) (by simp [size_zeroCells, Value.cells]; omega) (zeroCells_mem zone_M _) ?_; intro w5 h5; have H5 := Lib.hid h5; clear h5)
      go_ret
      refine ⟨_, rfl, ?_⟩
      rw [HLEN.out]
      refine H5.out.row_own (by omega) HCM.out (by rw [lay_len _ _ _ (by simp [size_zeroCells, Value.cells]; omega)]; exact hcz) ?_ ?_
      · unfold lay
        rw [List.append_assoc, List.take_append_of_le_length (by rw [List.length_take]; omega), List.take_of_length_le (by rw [List.length_take]; omega), ← HFIN.out, ← flat_take lenM, ← HCT.out, List.take_take]
        congr 1
        omega
      · intro u hu
        rw [← HFIN.out, ← flat_take lenM] at hu
        exact HONE.out u (List.mem_of_mem_take hu)
end Go.Proofs.YtkdinhlmghfpeaaGreatDoor

/- The queue's functions of entries: whose an entry is. (printed by genq.py) -/
namespace Go.Proofs.YtkdinhlmghfpeaaGreatDoor
open Go.ChangeShapes Go.WideShapes Go.ChangeAt Go.RowKit
set_option maxRecDepth 100000
set_option linter.unusedSimpArgs false


set_option maxHeartbeats 1000000 in
theorem waitF_M {w : World} {b : Nat} {o : Int} (hb : w.heap[b]? = some (.cells #[.int .i64 o] 3 (0, 0))) (x : Ent Int) : PredF 87 #[.pointer (some ⟨b, 0, none⟩)] w (cellsM x) (ofE o (entM x)) := by
  refine ⟨enters_of Tryz.func87 (by kernel_rfl) rfl, fun W hW => ?_⟩
  obtain ⟨W1, hW1, hk1, hbx, hb1⟩ := two_blocks (kept_blk hW hb) (cellsM x).toArray tEnM
  have HW1 := Lib.hid hW1
  have HK1 := Lib.hid hk1
  have HBX := Lib.hid hbx
  obtain ⟨c0, _⟩ := cells1 hb1
  clear hb hW hW1 hk1 hbx hb1
  show Calls Tryz.prog 87 #[.agg (cellsM x).toArray, .pointer (some ⟨b, 0, none⟩)] W _
  by_cases ho : x.o = o
  · have HO := Lib.hid (show ofE o (entM x) = true by unfold ofE; simp [ho])
    go_enter Tryz.func87, Tryz.ntmps87
    go_upto_region 1 with fail
    rw [← HW1.out]
    clear HW1
    generalize W.heap.size = bx at HBX ⊢
    have x0 := (boxM HBX.out).1
    rw [ho] at x0
    clear ho
    go_wp2_with fail
    go_ret
    exact ⟨by rw [HO.out]; simp, HK1.out⟩
  · have HO := Lib.hid (show ofE o (entM x) = false by unfold ofE; simp [ho])
    have hne : (x.o == o) = false := by simpa using ho
    go_enter Tryz.func87, Tryz.ntmps87
    go_upto_region 1 with fail
    rw [← HW1.out]
    clear HW1
    generalize W.heap.size = bx at HBX ⊢
    have x0 := (boxM HBX.out).1
    clear ho
    go_wp2_with fail
    go_ret
    exact ⟨by rw [HO.out]; rfl, HK1.out⟩
set_option maxHeartbeats 1000000 in
theorem clearF_M {w : World} {b : Nat} {o : Int} (hb : w.heap[b]? = some (.cells #[.int .i64 o] 3 (0, 0))) (x : Ent Int) : PredF 53 #[.pointer (some ⟨b, 0, none⟩)] w (cellsM x) (ofE o (entM x)) := by
  refine ⟨enters_of Tryz.func53 (by kernel_rfl) rfl, fun W hW => ?_⟩
  obtain ⟨W1, hW1, hk1, hbx, hb1⟩ := two_blocks (kept_blk hW hb) (cellsM x).toArray tEnM
  have HW1 := Lib.hid hW1
  have HK1 := Lib.hid hk1
  have HBX := Lib.hid hbx
  obtain ⟨c0, _⟩ := cells1 hb1
  clear hb hW hW1 hk1 hbx hb1
  show Calls Tryz.prog 53 #[.agg (cellsM x).toArray, .pointer (some ⟨b, 0, none⟩)] W _
  by_cases ho : x.o = o
  · have HO := Lib.hid (show ofE o (entM x) = true by unfold ofE; simp [ho])
    go_enter Tryz.func53, Tryz.ntmps53
    go_upto_region 1 with fail
    rw [← HW1.out]
    clear HW1
    generalize W.heap.size = bx at HBX ⊢
    have x0 := (boxM HBX.out).1
    rw [ho] at x0
    clear ho
    go_wp2_with fail
    go_ret
    exact ⟨by rw [HO.out]; simp, HK1.out⟩
  · have HO := Lib.hid (show ofE o (entM x) = false by unfold ofE; simp [ho])
    have hne : (x.o == o) = false := by simpa using ho
    go_enter Tryz.func53, Tryz.ntmps53
    go_upto_region 1 with fail
    rw [← HW1.out]
    clear HW1
    generalize W.heap.size = bx at HBX ⊢
    have x0 := (boxM HBX.out).1
    clear ho
    go_wp2_with fail
    go_ret
    exact ⟨by rw [HO.out]; rfl, HK1.out⟩
end Go.Proofs.YtkdinhlmghfpeaaGreatDoor

/- A queue in memory; who waits. (printed by genq.py) -/
namespace Go.Proofs.YtkdinhlmghfpeaaGreatDoor
open Go.ChangeShapes Go.WideShapes Go.ChangeAt Go.RowKit
set_option maxRecDepth 100000
set_option linter.unusedSimpArgs false


def RepM (D : PH) (hs : List (Ent Int)) (L : List (Ent Int)) : Prop := hs.map entM = L ∧ ∀ x ∈ hs, OkM D x
abbrev rulVM : List Value := [.func (.func 42) #[] #[], .func (.func 43) #[] #[], .func (.func 45) #[] #[], .func (.func 46) #[] #[]]
abbrev entsM (v : Value) (hs : List (Ent Int)) : HP := ownS tEnM 3 v hs.length (hs.flatMap cellsM)
abbrev qbM (q : Nat) (hv wv : Value) : HP := blk q #[.func (.func 42) #[] #[], .func (.func 43) #[] #[], .func (.func 45) #[] #[], .func (.func 46) #[] #[], hv, wv] tQM
/-- a queue in memory -/
def queM (D : PH) (q : Nat) (Q : Qm Int) : HP := exP (fun x : (Value × Value) × (List (Ent Int) × List (Ent Int)) => RepM D x.2.1 Q.held ∧ RepM D x.2.2 Q.waits) (fun x => [qbM q x.1.1 x.1.2, entsM x.1.1 x.2.1, entsM x.1.2 x.2.2])
theorem queOpen_M {B w : World} {D D' : PH} {l : List HP} {q : Nat} {Q : Qm Int} (h : Sat B D w (queM D' q Q :: l)) : ∃ (hv wv : Value) (hs ws : List (Ent Int)), RepM D' hs Q.held ∧ RepM D' ws Q.waits ∧ Sat B D w (qbM q hv wv :: entsM hv hs :: entsM wv ws :: l) := by
  obtain ⟨⟨⟨hv, wv⟩, hs, ws⟩, ⟨h1, h2⟩, h3⟩ := Sat.open_ex h
  exact ⟨hv, wv, hs, ws, h1, h2, h3⟩
theorem queShut_M {B w : World} {D D' : PH} {l : List HP} {q : Nat} {Q : Qm Int} {hv wv : Value} {hs ws : List (Ent Int)} (h1 : RepM D' hs Q.held) (h2 : RepM D' ws Q.waits) (h : Sat B D w (qbM q hv wv :: entsM hv hs :: entsM wv ws :: l)) : Sat B D w (queM D' q Q :: l) :=
  Sat.close_ex ((hv, wv), hs, ws) ⟨h1, h2⟩ h
theorem idx_map_M (p : Ent Int → Bool) (hs : List (Ent Int)) : idxI (fun x => p (entM x)) hs = idxI p (hs.map entM) := by
  unfold idxI
  rw [List.findIdx?_map]
  rfl
theorem any_map_M (p : Ent Int → Bool) (hs : List (Ent Int)) : hs.any (fun x => p (entM x)) = (hs.map entM).any p := by rw [List.any_map]; rfl
set_option maxHeartbeats 1000000 in
theorem waiting_M {B w : World} {D D' : PH} {l : List HP} {q : Nat} {Q : Qm Int} (o : Int) (h : Sat B D w (queM D' q Q :: l)) :
    Calls Tryz.prog 48 #[.pointer (some ⟨q, 0, none⟩), .int .i64 o] w fun e w' => e = .returned (.int .i64 (idxI (ofE o) Q.waits)) ∧ Kept (fun _ => False) w w' := by
  obtain ⟨hv, wv, hs, ws, hr1, hr2, h1⟩ := queOpen_M h
  obtain ⟨W1, hW1, hk1, hbx, hq1⟩ := two_blocks (h1.blk 0 rfl) #[.int .i64 o] 3
  have HI := Lib.hid (indexFunc_M (fun x => ofE o (entM x)) ((h1.own 2 rfl).rd.kept hk1 (fun _ _ h => h)) (fun x _ => waitF_M hbx x))
  rw [idx_map_M (ofE o), hr2.1] at HI
  have HW1 := Lib.hid hW1
  have HK1 := Lib.hid hk1
  have HQ1 := Lib.hid hq1
  clear h h1 hr1 hr2 hW1 hk1 hbx hq1
  generalize idxI (ofE o) Q.waits = k at *
  go_enter Tryz.func48, Tryz.ntmps48
  go_upto_region 1 with fail
  rw [← HW1.out]
  clear HW1
  generalize w.heap.size = bx at HI ⊢
  obtain ⟨c0, c1, c2, c3, c4, c5, cf⟩ := cells6 HQ1.out
  go_wp2_with (go_at_call 86; refine HI.out.mono ?_; rintro e1 w1 ⟨rfl, hk2⟩; have HK2 := Lib.hid (HK1.out.trans hk2 (fun _ h => h.elim)); clear hk2 HI c0 c1 c2 c3 c4 c5 cf)
  go_ret
  exact ⟨rfl, HK2.out⟩
end Go.Proofs.YtkdinhlmghfpeaaGreatDoor
