/- Contract of undo.(*Log).Touched. -/
import Derived.Test.YtokcpmeoiblpfaaUndo8
namespace Go.Proofs.Ytokcpmeoiblpfaa
open Go.ChangeShapes Go.WideShapes Go.ChangeAt Go.RowKit
set_option maxRecDepth 100000

/-- a key told as an entry -/
def Spot.ent (p : Spot) : Ent := ⟨p.t, p.k, .slice none 0 0⟩

set_option maxHeartbeats 4000000 in
theorem touched_ok {w : World} {b : Nat} {m : LogM} {S : Nat → Prop} (hmet : m.met.length ≤ 1000) (h : LogAt w b m S) :
    Calls Try.prog 14 #[.pointer (some ⟨b, 0, none⟩)] w fun e w' => ∃ ao cap, e = .returned (.slice ao m.met.length cap) ∧
      Told w w' m.met.length (m.met.map Spot.ent) S (.slice ao m.met.length cap) ∧ Kept (fun _ => False) w w' := by
  have hlt := h.lt
  obtain ⟨mb, lv, ov, h1, hS⟩ := h
  have hbl := lt_of_heap h1.blk
  obtain ⟨c0, c1, c2, c3, c4, c5, c6, c7, hf⟩ := cells8 h1.blk
  have HH := Lib.hid h1
  have HS := Lib.hid hS
  have HLT := Lib.hid hlt
  by_cases hn : m.met.length = 0
  · obtain ⟨o, oc, hov, -⟩ := h1.ord.rd.2.2
    rw [hov, hn] at c7
    have hnil : m.met = [] := List.eq_nil_of_length_eq_zero hn
    clear h1 hS hlt hov c0 c1 c2 c3 c4 c5 c6
    rw [hnil]
    go_enter Try.func14, Try.ntmps14
    go_wp2_with fail
    refine wp_loop_rounds 1 ?_
    rw [rounds_succ]
    go_wp2_with fail
    go_ret
    exact ⟨none, 0, rfl, ⟨Own.nil _ _ _, fun k hk => by simp [Value.ownBlock] at hk⟩, Kept.refl _ _⟩
  · obtain ⟨g, oc, hov, hoc, hom⟩ := h1.ord.form (by omega)
    have HOV := Lib.hid hov
    rw [hov] at c7
    clear h1 hS hlt hov c0 c1 c2 c3 c4 c5 c6
    go_enter Try.func14, Try.ntmps14
    go_wp2_with fail
    go_loopw [13, 3] (fun i v wr => ∃ (k : Nat) (ao : Option Addr) (cap : Nat), i = .int .i64 k ∧ k ≤ m.met.length ∧ v = .slice ao k cap ∧ Own wr tEnt 5 (.slice ao k cap) k (((m.met.take k).map Spot.ent).flatMap Ent.cells) ∧
        Kept (fun _ => False) w wr ∧ (∀ x, (Value.slice ao k cap).ownBlock = some x → NewIn w wr x))
      (fun i _ _ => m.met.length - (intOf i).toNat)
    case atStart => exact ⟨0, none, 0, rfl, by omega, rfl, Own.nil _ _ _, Kept.refl _ _, fun k hk => by simp [Value.ownBlock] at hk⟩
    case round =>
      obtain ⟨k, ao, cap, rfl, hk, rfl, hown, hkept, hnew⟩ := hrel
      have HO := Lib.hid hown
      have HK := Lib.hid hkept
      have HN := Lib.hid hnew
      have L := HH.out.frame hkept (fun _ _ h => h)
      have hord := L.ord
      rw [HOV.out] at hord
      have hsz := hkept.size
      clear hown hkept hnew
      by_cases hlt : k < m.met.length
      · obtain ⟨x, hx⟩ : ∃ x, m.met[k]? = some x := ⟨m.met[k]'hlt, List.getElem?_eq_getElem hlt⟩
        have hgl : g < wr.heap.size := hord.lt g rfl
        have a0 := hord.cells _ _ (flat_get Spot.len m.met k x hx 0 _ rfl)
        have a1 := hord.cells _ _ (flat_get Spot.len m.met k x hx 1 _ rfl)
        have a2 := hord.cells _ _ (flat_get Spot.len m.met k x hx 2 _ rfl)
        have a3 := hord.cells _ _ (flat_get Spot.len m.met k x hx 3 _ rfl)
        rw [Nat.add_zero] at a0
        have HX := Lib.hid hx
        have HL := Lib.hid L
        clear hord hx L
        have KX : Kept (fun _ => False) wr ((wr.alloc (.cells #[.int .i64 x.t, .bool x.k.t, .int .i64 x.k.n, .string x.k.s] 63)).alloc (.cells #[.int .i64 x.t, .bool x.k.t, .int .i64 x.k.n, .string x.k.s, .slice none 0 0] 27)) := ((Kept.refl _ _).alloc _).alloc _
        have OWN := HO.out.kept KX (fun _ _ h => h)
        have NB : ((wr.alloc (.cells #[.int .i64 x.t, .bool x.k.t, .int .i64 x.k.n, .string x.k.s] 63)).alloc (.cells #[.int .i64 x.t, .bool x.k.t, .int .i64 x.k.n, .string x.k.s, .slice none 0 0] 27)).heap[wr.heap.size + 1]? = some (.cells #[.int .i64 x.t, .bool x.k.t, .int .i64 x.k.n, .string x.k.s, .slice none 0 0] 27 (0, 0)) := by
          have := heap_alloc_self (wr.alloc (.cells #[.int .i64 x.t, .bool x.k.t, .int .i64 x.k.n, .string x.k.s] 63)) (.cells #[.int .i64 x.t, .bool x.k.t, .int .i64 x.k.n, .string x.k.s, .slice none 0 0] 27)
          rw [World.size_alloc] at this
          exact this
        obtain ⟨i0, hi, hz0, hz1, hz2⟩ := info_parts infoEnt
        have hone : ∀ u ∈ [Value.int .i64 x.t, .bool x.k.t, .int .i64 x.k.n, .string x.k.s, .slice none 0 0], u.oneCell' = true := by intro u hu; simp at hu; rcases hu with rfl | rfl | rfl | rfl | rfl <;> rfl
        have HKX := Lib.hid KX
        have HOWN := Lib.hid OWN
        have HNB := Lib.hid NB
        have HI := Lib.hid (And.intro hi (And.intro hz0 (And.intro hz1 hz2)))
        have HONE := Lib.hid hone
        clear KX OWN NB hi hz0 hz1 hz2 hone
        go_wp2_with (at_builtin; refine wpList_append_Own _ rfl _ _ 31 rfl tEnt i0 _ 5 64 Try.underlying31 HI.out.1 HI.out.2.1 HI.out.2.2.1 HI.out.2.2.2 rfl _ k _ rfl HOWN.out ⟨wr.heap.size + 1, 0, none⟩ 1 1 [.int .i64 x.t, .bool x.k.t, .int .i64 x.k.n, .string x.k.s, .slice none 0 0] rfl rfl (news_of_heap HNB.out) HONE.out (by omega) (by unfold maxLen; omega) (by omega) ?_; intro g2 cap2 w2 hown2 hk2 hg2; have HO2 := Lib.hid hown2; have HK2 := Lib.hid hk2; have HG2 := Lib.hid hg2; clear hown2 hk2 hg2)
        go_roundw
        case rel =>
          have hK : Kept (fun _ => False) w w2 := (HK.out.trans HKX.out (fun _ h => h.elim)).trans HK2.out (fun k hk => .inr (HN.out k hk).1)
          refine ⟨k + 1, some ⟨g2, 0, none⟩, cap2, by go_num, by omega, rfl, ?_, hK, fun y hy => ⟨?_, ?_⟩⟩
          · have e : ((m.met.take (k + 1)).map Spot.ent).flatMap Ent.cells = ((m.met.take k).map Spot.ent).flatMap Ent.cells ++ [.int .i64 x.t, .bool x.k.t, .int .i64 x.k.n, .string x.k.s, .slice none 0 0] := by
              rw [List.take_add_one, HX.out]
              simp [Spot.ent, Ent.cells]
            rw [e]
            exact HO2.out
          · simp [Value.ownBlock] at hy
            subst hy
            rcases HG2.out with ⟨h, _⟩ | ⟨h, _⟩
            · exact (HN.out _ h).1
            · have := HKX.out.size; omega
          · exact HO2.out.lt y hy
        case measure => simp [intOf]; omega
      · go_wp2_with fail
        go_ret
        obtain rfl : k = m.met.length := by omega
        have ho := HO.out
        rw [List.take_length] at ho
        exact ⟨ao, cap, rfl, ⟨ho, fun x hx => ⟨HN.out x hx, fun hs => by have := HLT.out x hs; have := (HN.out x hx).1; omega⟩⟩, HK.out⟩
end Go.Proofs.Ytokcpmeoiblpfaa
