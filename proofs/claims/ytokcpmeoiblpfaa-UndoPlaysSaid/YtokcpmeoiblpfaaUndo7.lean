/- Contract of undo.(*Log).Back. -/
import Derived.Test.YtokcpmeoiblpfaaUndo6
namespace Go.Proofs.Ytokcpmeoiblpfaa
open Go.ChangeShapes Go.WideShapes Go.ChangeAt Go.RowKit
set_option maxRecDepth 100000

/-- a savepoint behind what is taken out is gone -/
def gone (at_ s : Int) : Int := if at_ < s then 0 else s
/-- the first so many savepoints looked at -/
def LogM.goneTo (m : LogM) (at_ : Int) (k : Nat) : LogM :=
  { m with s0 := if 0 < k then gone at_ m.s0 else m.s0, s1 := if 1 < k then gone at_ m.s1 else m.s1, s2 := if 2 < k then gone at_ m.s2 else m.s2, s3 := if 3 < k then gone at_ m.s3 else m.s3 }
def LogM.back (m : LogM) (at_ : Int) : LogM := { m.goneTo at_ 4 with es := m.es.take (at_ - 1).toNat }

theorem wpList_index4 {w : World} {ops : Array Oper} {rest : List Oper} {o : Oper} {a : Act} {Q : Exit → Act → World → Prop} (x i : Operand) (hgd : o.guard = none) (ho : o.op = .index 56 x i)
    {s0 s1 s2 s3 : Int} {k : Nat} (hx : a.eval x = .agg #[.int .i64 s0, .int .i64 s1, .int .i64 s2, .int .i64 s3]) (hi : a.eval i = .int .i64 k) (u : Int) (hu : #[s0, s1, s2, s3][k]? = some u)
    (h : wpList Try.prog ops Q rest (a.put o.dst (.int .i64 u)) w) : wpList Try.prog ops Q (o :: rest) a w :=
  wpList_plain hgd fun _ hK => by
    have hk : k < 4 := by
      have := (Array.getElem?_eq_some_iff.1 hu).1
      exact this
    have hr : (Instr.index 56 (.agg #[.int .i64 s0, .int .i64 s1, .int .i64 s2, .int .i64 s3]) (.int .i64 k)).run Try.prog w = .ok (.int .i64 u) w := by
      have hc : k = 0 ∨ k = 1 ∨ k = 2 ∨ k = 3 := by omega
      rcases hc with rfl | rfl | rfl | rfl <;> simp at hu <;> subst hu <;> simp [Instr.index, asIntOf, run_underlying Try.underlying56, Try.sizeOf3, part, isAgg, run_underlying Try.underlying3]
    unfold Oper.wp
    simp [ho, execOp, hx, hi, hr, Result.andThen]
    exact hK _ _ h

def LogM.sav (m : LogM) (k : Nat) : Int := if k = 0 then m.s0 else if k = 1 then m.s1 else if k = 2 then m.s2 else m.s3
theorem gone_yes (m : LogM) (at_ : Int) (lv ov : Value) (mb : Nat) {k : Nat} (hk : k < 4) (h : at_ < m.sav k) : (logCells (m.goneTo at_ k) lv mb ov).setIfInBounds (2 + k) (.int .i64 0) = logCells (m.goneTo at_ (k + 1)) lv mb ov := by
  have hc : k = 0 ∨ k = 1 ∨ k = 2 ∨ k = 3 := by omega
  rcases hc with rfl | rfl | rfl | rfl <;> simp [LogM.sav] at h <;> simp [LogM.goneTo, logCells, gone, h]
theorem gone_not (m : LogM) (at_ : Int) {k : Nat} (hk : k < 4) (h : ¬ at_ < m.sav k) : m.goneTo at_ (k + 1) = m.goneTo at_ k := by
  have hc : k = 0 ∨ k = 1 ∨ k = 2 ∨ k = 3 := by omega
  rcases hc with rfl | rfl | rfl | rfl <;> simp [LogM.sav] at h <;> simp [LogM.goneTo, gone] <;> omega
theorem LogR.goneStep {w : World} {b mb : Nat} {lv ov : Value} {m : LogM} {at_ : Int} {k : Nat} (hR : LogR w b mb lv ov (m.goneTo at_ k)) (hk : k < 4) (h : at_ < m.sav k) :
    LogR (w.setCell ⟨b, 2 + k, none⟩ (.int .i64 0)) b mb lv ov (m.goneTo at_ (k + 1)) :=
  hR.setBlk (Kept.set_at w b _ _) (by rw [← gone_yes m at_ lv ov mb hk h]; exact heap_setCell_at hR.blk _) rfl rfl

theorem back_no {w : World} {b : Nat} {m : LogM} {S : Nat → Prop} (n : Int) (h : LogAt w b m S) (hn : n < 1 ∨ 3 < n ∨ m.getS n = 0) :
    Calls Try.prog 10 #[.pointer (some ⟨b, 0, none⟩), .int .i64 n] w fun e w' => e = .returned (.tuple #[.slice none 0 0, .int .i64 70]) ∧ w' = w := by
  by_cases h1 : n < 1
  · go_enter Try.func10, Try.ntmps10
    go_wp2_with fail
    go_ret2
    exact ⟨rfl, rfl⟩
  · by_cases h3 : 3 < n
    · go_enter Try.func10, Try.ntmps10
      go_wp2_with fail
      go_ret2
      exact ⟨rfl, rfl⟩
    · have h0 : m.getS n = 0 := by omega
      obtain ⟨mb, lv, ov, hL, hS⟩ := h
      obtain ⟨c0, c1, c2, c3, c4, c5, c6, c7, hf⟩ := cells8 hL.blk
      clear hL hS
      unfold LogM.getS at h0
      have hc : n = 1 ∨ n = 2 ∨ n = 3 := by omega
      rcases hc with rfl | rfl | rfl
      · rw [if_pos rfl] at h0
        rw [h0] at c3
        go_enter Try.func10, Try.ntmps10
        go_wp2_with fail
        go_ret2
        exact ⟨rfl, rfl⟩
      · rw [if_neg (by decide), if_pos rfl] at h0
        rw [h0] at c4
        go_enter Try.func10, Try.ntmps10
        go_wp2_with fail
        go_ret2
        exact ⟨rfl, rfl⟩
      · rw [if_neg (by decide), if_neg (by decide)] at h0
        rw [h0] at c5
        go_enter Try.func10, Try.ntmps10
        go_wp2_with fail
        go_ret2
        exact ⟨rfl, rfl⟩

set_option maxHeartbeats 4000000 in
theorem back_yes {w : World} {b : Nat} {m : LogM} {S : Nat → Prop} (n : Int) (h60 : m.es.length ≤ 60) (h : LogAt w b m S) (hn : 1 ≤ n ∧ n ≤ 3) (h1 : 1 ≤ m.getS n) (hl : m.getS n ≤ m.es.length + 1) :
    Calls Try.prog 10 #[.pointer (some ⟨b, 0, none⟩), .int .i64 n] w fun e w' => ∃ ao cap, e = .returned (.tuple #[.slice ao (m.es.length - (m.getS n - 1).toNat) cap, .int .i64 0]) ∧
      Told w w' (m.es.length - (m.getS n - 1).toNat) (m.es.drop (m.getS n - 1).toNat).reverse S (.slice ao (m.es.length - (m.getS n - 1).toNat) cap) ∧ LogAt w' b (m.back (m.getS n)) S ∧ Kept S w w' := by
  obtain ⟨mb, lv, ov, hL, hS⟩ := h
  have hc : n = 1 ∨ n = 2 ∨ n = 3 := by omega
  obtain ⟨i, hi, rfl⟩ : ∃ i : Nat, i < 4 ∧ n = (i : Int) := ⟨n.toNat, by omega, by omega⟩
  have hbl := lt_of_heap hL.blk
  obtain ⟨c0, c1, c2, c3, c4, c5, c6, c7, hf⟩ := cells8 hL.blk
  have ci : w.cell? ⟨b, 2 + i, none⟩ = some (.int .i64 (m.getS i)) := by
    rcases hc with h | h | h
    · obtain rfl : i = 1 := by omega
      exact c3
    · obtain rfl : i = 2 := by omega
      exact c4
    · obtain rfl : i = 3 := by omega
      exact c5
  generalize hG : m.getS i = at_ at *
  obtain ⟨q, rfl⟩ : ∃ q : Nat, at_ = (q : Int) + 1 := ⟨(at_ - 1).toNat, by omega⟩
  have hq : ((q : Int) + 1 - 1).toNat = q := by omega
  rw [hq]
  have hql : q ≤ m.es.length := by omega
  have hn1 : ¬ (i : Int) < 1 := by omega
  have hn3 : ¬ 3 < (i : Int) := by omega
  have h0 : ¬ ((q : Int) + 1) = 0 := by omega
  have HL := Lib.hid hL
  have HS := Lib.hid hS
  have HG := Lib.hid hG
  clear hL hS hG hc
  go_enter Try.func10, Try.ntmps10
  go_wp2_with fail
  go_loopw [36] (fun j wr => ∃ k : Nat, j = .int .i64 k ∧ k ≤ 4 ∧ LogR wr b mb lv ov (m.goneTo ((q : Int) + 1) k) ∧ Kept (fun x => x = b) w wr) (fun j _ => 4 - (intOf j).toNat)
  case atStart => exact ⟨0, rfl, by omega, HL.out, Kept.refl _ _⟩
  case round =>
    obtain ⟨k, rfl, hk, hR, hK⟩ := hrel
    obtain ⟨d0, d1, d2, d3, d4, d5, d6, d7, df⟩ := cells8 hR.blk
    have hb2 := lt_of_heap hR.blk
    have hR := Lib.hid hR
    have hK := Lib.hid hK
    clear c0 c1 c2 c3 c4 c5 c6 c7 hf ci
    have hc : k = 0 ∨ k = 1 ∨ k = 2 ∨ k = 3 ∨ k = 4 := by omega
    rcases hc with rfl | rfl | rfl | rfl | rfl
    · by_cases hgt : ((q : Int) + 1) < m.s0
      · go_wp2_with (refine wpList_index4 _ _ rfl rfl rfl rfl _ rfl ?_)
        go_roundw
        case rel => exact ⟨0+1, rfl, by omega, hR.out.goneStep (by omega) hgt, hK.out.trans (Kept.set_at _ _ _ _) (fun _ e => .inl e)⟩
        case measure => simp [intOf]
      · go_wp2_with (refine wpList_index4 _ _ rfl rfl rfl rfl _ rfl ?_)
        go_roundw
        case rel => exact ⟨0+1, rfl, by omega, by rw [gone_not _ _ (by omega) hgt]; exact hR.out, hK.out⟩
        case measure => simp [intOf]
    · by_cases hgt : ((q : Int) + 1) < m.s1
      · go_wp2_with (refine wpList_index4 _ _ rfl rfl rfl rfl _ rfl ?_)
        go_roundw
        case rel => exact ⟨1+1, rfl, by omega, hR.out.goneStep (by omega) hgt, hK.out.trans (Kept.set_at _ _ _ _) (fun _ e => .inl e)⟩
        case measure => simp [intOf]
      · go_wp2_with (refine wpList_index4 _ _ rfl rfl rfl rfl _ rfl ?_)
        go_roundw
        case rel => exact ⟨1+1, rfl, by omega, by rw [gone_not _ _ (by omega) hgt]; exact hR.out, hK.out⟩
        case measure => simp [intOf]
    · by_cases hgt : ((q : Int) + 1) < m.s2
      · go_wp2_with (refine wpList_index4 _ _ rfl rfl rfl rfl _ rfl ?_)
        go_roundw
        case rel => exact ⟨2+1, rfl, by omega, hR.out.goneStep (by omega) hgt, hK.out.trans (Kept.set_at _ _ _ _) (fun _ e => .inl e)⟩
        case measure => simp [intOf]
      · go_wp2_with (refine wpList_index4 _ _ rfl rfl rfl rfl _ rfl ?_)
        go_roundw
        case rel => exact ⟨2+1, rfl, by omega, by rw [gone_not _ _ (by omega) hgt]; exact hR.out, hK.out⟩
        case measure => simp [intOf]
    · by_cases hgt : ((q : Int) + 1) < m.s3
      · go_wp2_with (refine wpList_index4 _ _ rfl rfl rfl rfl _ rfl ?_)
        go_roundw
        case rel => exact ⟨3+1, rfl, by omega, hR.out.goneStep (by omega) hgt, hK.out.trans (Kept.set_at _ _ _ _) (fun _ e => .inl e)⟩
        case measure => simp [intOf]
      · go_wp2_with (refine wpList_index4 _ _ rfl rfl rfl rfl _ rfl ?_)
        go_roundw
        case rel => exact ⟨3+1, rfl, by omega, by rw [gone_not _ _ (by omega) hgt]; exact hR.out, hK.out⟩
        case measure => simp [intOf]
    · go_wp2_with fail
      have HR := hR.out
      refine (cut_ok (m := m.goneTo ((q : Int) + 1) 4) (S := S) hql h60 ⟨mb, lv, ov, HR, HS.out⟩).mono ?_
      rintro e1 w1 ⟨ao, cap, rfl, htold, hlog, hk1⟩
      replace htold : Told wr w1 (m.es.length - q) (m.es.drop q).reverse S (.slice ao (m.es.length - q) cap) := htold
      have KK : Kept S w w1 := (hK.out.mono (fun k _ e => (HS.out k).2 (.inl e))).trans hk1 (fun _ h => .inl h)
      have hkz := hK.out.size
      have e2 : (m.goneTo ((q : Int) + 1) 4).es.length = m.es.length := rfl
      rw [e2]
      have HT := Lib.hid htold
      have HLG := Lib.hid hlog
      have HK1 := Lib.hid KK
      clear htold hlog hk1 KK
      go_wp2_with fail
      go_ret2
      refine ⟨ao, cap, rfl, ⟨HT.out.1, fun k hk => ⟨?_, (HT.out.2 k hk).2⟩⟩, ?_, HK1.out⟩
      · have := (HT.out.2 k hk).1
        exact ⟨Nat.le_trans hkz this.1, this.2⟩
      · unfold LogM.back
        rw [hq]
        exact HLG.out
end Go.Proofs.Ytokcpmeoiblpfaa
