/- Contract of the library's Reverse as the log calls it. -/
import Derived.Test.YtokcpmeoiblpfaaUndo2
namespace Go.Proofs.Ytokcpmeoiblpfaa
open Go.ChangeShapes Go.WideShapes Go.ChangeAt Go.RowKit
set_option maxRecDepth 100000

theorem set_app {α : Type} (a b : List α) (k : Nat) (u : α) : (a ++ b).set (a.length + k) u = a ++ b.set k u := by
  induction a with
  | nil => simp
  | cons x a ih => simp only [List.cons_append, List.length_cons]; rw [show a.length + 1 + k = (a.length + k) + 1 by omega, List.set_cons_succ, ih]

theorem flat_set_ent : ∀ (l : List Ent) (i : Nat) (y : Ent), i < l.length →
    (((((l.flatMap Ent.cells).set (i * 5) (.int .i64 y.t)).set (i * 5 + 1) (.bool y.k.t)).set (i * 5 + 2) (.int .i64 y.k.n)).set (i * 5 + 3) (.string y.k.s)).set (i * 5 + 4) y.was = (l.set i y).flatMap Ent.cells
  | x :: l, 0, y, _ => by simp [Ent.cells]
  | x :: l, i + 1, y, h => by
    have hl : x.cells.length = 5 := rfl
    have e : ∀ j, (i + 1) * 5 + j = x.cells.length + (i * 5 + j) := fun j => by rw [hl]; omega
    have e0 : (i + 1) * 5 = x.cells.length + i * 5 := by rw [hl]; omega
    rw [List.flatMap_cons, List.set_cons_succ, List.flatMap_cons, e, e, e, e, e0, set_app, set_app, set_app, set_app, set_app, flat_set_ent l i y (by simpa using h)]

theorem one_ents {l : List Ent} (h : ∀ u ∈ l.flatMap Ent.cells, u.oneCell' = true) {l' : List Ent} (hs : ∀ x ∈ l', x ∈ l) : ∀ u ∈ l'.flatMap Ent.cells, u.oneCell' = true := by
  intro u hu
  obtain ⟨x, hx, hu⟩ := List.mem_flatMap.1 hu
  exact h u (List.mem_flatMap.2 ⟨x, hs x hx, hu⟩)

set_option maxHeartbeats 2000000 in
theorem reverse_ents {w : World} {v : Value} (l : List Ent) (hown : Own w tEnt 5 v l.length (l.flatMap Ent.cells)) :
    Calls Try.prog 27 #[v] w fun e w' => e = .returned (.tuple #[]) ∧ Own w' tEnt 5 v l.length (l.reverse.flatMap Ent.cells) ∧ Kept (fun k => v.ownBlock = some k) w w' ∧ w'.heap.size = w.heap.size := by
  have hle := hown.le
  unfold maxLen at hle
  by_cases hn : l = []
  · subst hn
    have HO := Lib.hid hown
    obtain ⟨ao, cap, rfl, -⟩ := hown.rd.2.2
    clear hown
    go_enter Try.func27, Try.ntmps27
    go_wp2_with fail
    refine wp_loop_rounds 1 ?_
    rw [rounds_succ]
    go_wp2_with fail
    go_end0
    exact ⟨rfl, HO.out, Kept.refl _ _, rfl⟩
  · have hpos : 0 < l.length := List.length_pos_iff.2 hn
    obtain ⟨g, cap, rfl, hcap, hcm⟩ := hown.form hpos
    obtain ⟨z, hz, hrow⟩ := hown.row
    have hone := hown.2.1
    have HONE := Lib.hid hone
    have HR := Lib.hid hrow
    clear hown hrow hone
    go_enter Try.func27, Try.ntmps27
    go_wp2_with fail
    go_loopw [2, 3] (fun i j wr => ∃ (k : Nat) (r : Int) (l' : List Ent), i = .int .i64 k ∧ j = .int .i64 r ∧ r + k + 1 = l.length ∧ k ≤ l.length ∧ l'.length = l.length ∧
        (∀ p, p < l.length → l'[p]? = if p < k ∨ l.length ≤ p + k then l[l.length - 1 - p]? else l[p]?) ∧ RowV wr g tEnt z (l'.flatMap Ent.cells) ∧ Kept (fun k => k = g) w wr ∧ wr.heap.size = w.heap.size)
      (fun i _ _ => l.length - (intOf i).toNat)
    case atStart => exact ⟨0, _, l, rfl, rfl, by omega, by omega, rfl, fun p hp => by simp; omega, HR.out, Kept.refl _ _, rfl⟩
    case round =>
      obtain ⟨k, r, l', rfl, rfl, hr, hk, hl', hp, hrow, hkept, hsz⟩ := hrel
      have HP := Lib.hid hp
      have HRW := Lib.hid hrow
      have HK := Lib.hid hkept
      have HSZ := Lib.hid hsz
      clear hp hrow hkept hsz
      by_cases hlt : (k : Int) < r
      · obtain ⟨q, rfl⟩ := Int.eq_ofNat_of_zero_le (show 0 ≤ r by omega)
        obtain ⟨x, hx⟩ : ∃ x, l'[k]? = some x := ⟨l'[k]'(by omega), List.getElem?_eq_getElem (by omega)⟩
        obtain ⟨y, hy⟩ : ∃ y, l'[q]? = some y := ⟨l'[q]'(by omega), List.getElem?_eq_getElem (by omega)⟩
        have hkq : k < q := by omega
        have hqn : q < l.length := by omega
        have hkn : k < l.length := by omega
        have hf := HRW.out.frozen
        have a0 := HRW.out.cell (flat_get Ent.len l' k x hx 0 _ rfl)
        have a1 := HRW.out.cell (flat_get Ent.len l' k x hx 1 _ rfl)
        have a2 := HRW.out.cell (flat_get Ent.len l' k x hx 2 _ rfl)
        have a3 := HRW.out.cell (flat_get Ent.len l' k x hx 3 _ rfl)
        have a4 := HRW.out.cell (flat_get Ent.len l' k x hx 4 _ rfl)
        have b0 := HRW.out.cell (flat_get Ent.len l' q y hy 0 _ rfl)
        have b1 := HRW.out.cell (flat_get Ent.len l' q y hy 1 _ rfl)
        have b2 := HRW.out.cell (flat_get Ent.len l' q y hy 2 _ rfl)
        have b3 := HRW.out.cell (flat_get Ent.len l' q y hy 3 _ rfl)
        have b4 := HRW.out.cell (flat_get Ent.len l' q y hy 4 _ rfl)
        rw [Nat.add_zero] at a0 b0
        have hmem : ∀ (p : Nat) (e : Ent), l'[p]? = some e → e ∈ l := fun p e hpe => by
          have hpn : p < l.length := by rw [← hl']; exact (List.getElem?_eq_some_iff.1 hpe).1
          rw [HP.out p hpn] at hpe
          split at hpe <;> exact List.mem_of_getElem? hpe
        have hx1 : x.was.oneCell' = true := HONE.out _ (List.mem_flatMap.2 ⟨x, hmem _ _ hx, by simp [Ent.cells]⟩)
        have hy1 : y.was.oneCell' = true := HONE.out _ (List.mem_flatMap.2 ⟨y, hmem _ _ hy, by simp [Ent.cells]⟩)
        clear hmem
        have HX := Lib.hid hx
        have HY := Lib.hid hy
        have hr' := Lib.hid hr
        clear hx hy hr
        go_wp2_with fail
        refine wp_region_canon [(0, false, 13), (1, false, 13), (2, false, 15), (3, false, 15), (4, false, 13), (5, false, 13), (6, false, 13), (7, false, 13), (8, false, 13), (9, false, 13), (10, false, 13), (11, false, 13), (12, false, 13), (13, true, 0), (14, false, 15), (15, true, 0)] (by kernel_rfl) (by kernel_rfl) ?_
        iterate 13 (refine wpCan_read rfl rfl (fun K hK => ?_); go_simp; refine hK _ ?_; clear hK K)
        refine wpCan_eff rfl ?_
        refine wpList_plain rfl (fun K hK => ?_)
        go_simp
        refine hK _ _ ?_
        clear hK K
        refine wpList_nil ?_
        refine And.intro ?_ ?_
        · go_simp
        iterate 1 (refine wpCan_read rfl rfl (fun K hK => ?_); go_simp; refine hK _ ?_; clear hK K)
        refine wpCan_eff rfl ?_
        refine wpList_plain rfl (fun K hK => ?_)
        go_simp
        refine hK _ _ ?_
        clear hK K
        refine wpList_nil ?_
        refine And.intro ?_ ?_
        · go_simp
        refine wpCan_nil ?_
        go_wp2_with fail
        go_roundw
        case rel =>
          refine ⟨k + 1, (q : Int) - 1, (l'.set k y).set q x, by go_num, rfl, by have := hr'.out; omega, by omega, by simp [hl'], fun p hpn => ?_, ?_, ?_, ?_⟩
          · have hP := HP.out p hpn
            have hPk := HP.out k hkn
            have hPq := HP.out q hqn
            have hrr := hr'.out
            rw [if_neg (by omega)] at hPk hPq
            rw [HX.out] at hPk
            rw [HY.out] at hPq
            by_cases h1 : p = q
            · subst h1
              rw [List.getElem?_set_self (by simp [hl']; omega), if_pos (by omega), hPk]
              congr 1
              omega
            · rw [List.getElem?_set_ne (fun h => h1 h.symm)]
              by_cases h2 : p = k
              · subst h2
                rw [List.getElem?_set_self (by omega), if_pos (by omega), hPq]
                congr 1
                omega
              · rw [List.getElem?_set_ne (fun h => h2 h.symm), hP]
                by_cases h3 : p < k ∨ l.length ≤ p + k
                · rw [if_pos h3, if_pos (by omega)]
                · rw [if_neg h3, if_neg (by omega)]
          · rw [← flat_set_ent _ q x (by simp [hl']; omega), ← flat_set_ent l' k y (by omega)]
            exact ((((((((((HRW.out.set _ _).set _ _).set _ _).set _ _).set _ _).set _ _).set _ _).set _ _).set _ _).set _ _).drew
          · have hset := fun (w0 : World) (j : Nat) (u : Value) => Kept.set_at w0 g j u
            have ht : ∀ k, (k = g → k = g ∨ w.heap.size ≤ k) := fun _ h => .inl h
            exact ((((((((((HK.out.trans (hset _ _ _) ht).trans (hset _ _ _) ht).trans (hset _ _ _) ht).trans (hset _ _ _) ht).trans (hset _ _ _) ht).trans (hset _ _ _) ht).trans (hset _ _ _) ht).trans (hset _ _ _) ht).trans (hset _ _ _) ht).trans (hset _ _ _) ht).drew
          · simpa [World.setCell] using HSZ.out
        case measure => simp [intOf]; omega
      · go_wp2_with fail
        go_end0
        have e : l' = l.reverse := by
          apply List.ext_getElem?
          intro p
          by_cases hpn : p < l.length
          · rw [HP.out p hpn, List.getElem?_reverse hpn]
            by_cases h3 : p < k ∨ l.length ≤ p + k
            · rw [if_pos h3]
            · rw [if_neg h3]
              congr 1
              omega
          · rw [List.getElem?_eq_none (by omega), List.getElem?_eq_none (by simp; omega)]
        subst e
        have hro := HRW.out.own (size := 5) (n := l.length) (cap := cap) (by rw [flat_len Ent.len]; simp) (one_ents HONE.out (fun x hx => List.mem_reverse.1 hx)) hcap hcm hz
        exact ⟨rfl, hro, HK.out.mono (fun k _ e => by rw [e]; rfl), HSZ.out⟩
end Go.Proofs.Ytokcpmeoiblpfaa
