/- The reference of the undo log: its contracts. -/
import Derived.Test.YtokcpmeoiblpfaaUndoP
import Derived.Test.YtokcpmeoiblpfaaUndoSame
namespace Go.Proofs.Ytokcpmeoiblpfaa
open Go.ChangeShapes Go.WideShapes Go.ChangeAt Go.RowKit
set_option maxRecDepth 100000
set_option linter.unusedSimpArgs false

theorem ent_one (es : List Ent) (h : ∀ e ∈ es, e.was.oneCell' = true) : ∀ u ∈ es.flatMap Ent.cells, u.oneCell' = true := by
  intro u hu
  obtain ⟨e, he, hu⟩ := List.mem_flatMap.1 hu
  simp [Ent.cells] at hu
  rcases hu with rfl | rfl | rfl | rfl | rfl
  case inr.inr.inr.inr => exact h e he
  all_goals rfl

set_option maxHeartbeats 2000000 in
theorem turned_ok {B w : World} {D : PH} {l : List HP} {v : Value} {es : List Ent} (from_ : Nat) (hf : from_ ≤ es.length) (h60 : es.length ≤ 60) (hrd : RdP D 5 v es.length (es.flatMap Ent.cells)) (hone : ∀ e ∈ es, e.was.oneCell' = true) (hs : Sat B D w l) :
    Calls Try.prog 29 #[v, .int .i64 from_] w fun e w' => ∃ v', e = .returned v' ∧ ∃ D', PH.le D D' ∧ RdP D' 5 v' (es.length - from_) ((es.drop from_).reverse.flatMap Ent.cells) ∧ Sat B D' w' l := by
  have HRD := Lib.hid hrd
  have HS := Lib.hid (hs.own_nil tEnt 5)
  have HONE := Lib.hid hone
  obtain ⟨ao, cap, rfl, hcap⟩ := hrd.2.2
  clear hrd hs hone hcap
  go_enter Try.func29, Try.ntmps29
  go_wp2_with fail
  go_loopw [5, 6] (fun out i wr => ∃ (k : Nat) (z : Int) (o : Option Addr) (c : Nat), i = .int .i64 z ∧ z + 1 + k = es.length ∧ k + from_ ≤ es.length ∧ out = .slice o k c ∧ Sat B D wr (ownS tEnt 5 (.slice o k c) k ((es.reverse.take k).flatMap Ent.cells) :: l))
    (fun _ i _ => (intOf i + 1).toNat)
  case atStart => exact ⟨0, _, none, 0, rfl, by omega, by omega, rfl, by simpa using HS.out⟩
  case round =>
    obtain ⟨k, z, o, c, rfl, hz, hk, rfl, hsat⟩ := hrel
    have HSAT := Lib.hid hsat
    have hzl : z ≤ 60 := by omega
    have hz0 : -1 ≤ z := by omega
    clear hsat HS
    by_cases hlt : (from_ : Int) ≤ z
    · obtain ⟨q, rfl⟩ := Int.eq_ofNat_of_zero_le (show 0 ≤ z by omega)
      obtain ⟨x, hx⟩ : ∃ x, es[q]? = some x := ⟨es[q]'(by omega), List.getElem?_eq_getElem (by omega)⟩
      have hx1 := HONE.out x (List.mem_of_getElem? hx)
      rcases (HRD.out.rd HSAT.out).2.2 with ⟨_, _, hv, _, _, _, hcell⟩
      cases hv
      rcases hcell with h0 | ⟨g, og, rfl, hc⟩
      · omega
      have a0 := hc _ _ (flat_get Ent.len es q x hx 0 _ rfl)
      have a1 := hc _ _ (flat_get Ent.len es q x hx 1 _ rfl)
      have a2 := hc _ _ (flat_get Ent.len es q x hx 2 _ rfl)
      have a3 := hc _ _ (flat_get Ent.len es q x hx 3 _ rfl)
      have a4 := hc _ _ (flat_get Ent.len es q x hx 4 _ rfl)
      rw [Nat.add_zero] at a0
      rw [← Nat.add_assoc] at a1 a2 a3 a4
      have hnew := HSAT.out.alloc #[.int .i64 x.t, .bool x.k.t, .int .i64 x.k.n, .string x.k.s, x.was] tEnt
      have hb := rd_block (size := 5) (n := 1) hnew.heap_blk rfl (by unfold maxLen; omega)
      obtain ⟨i0, hi, hz0, hz1, hz2⟩ := info_parts infoEnt
      have hones : ∀ u ∈ [Value.int .i64 x.t, .bool x.k.t, .int .i64 x.k.n, .string x.k.s, x.was], u.oneCell' = true := by intro u hu; simp at hu; rcases hu with rfl | rfl | rfl | rfl | rfl <;> first | exact hx1 | rfl
      have HN := Lib.hid hnew.swap
      have HB := Lib.hid hb
      have HI := Lib.hid (And.intro hi (And.intro hz0 (And.intro hz1 hz2)))
      have HO := Lib.hid hones
      have HX := Lib.hid hx
      clear hnew hb hi hz0 hz1 hz2 hones hc hx
      go_wp2_with (at_builtin; refine wpList_append_Sat _ rfl _ _ 31 rfl tEnt i0 _ 5 64 Try.underlying31 HI.out.1 HI.out.2.1 HI.out.2.2.1 HI.out.2.2.2 rfl _ k _ rfl HN.out _ 1 _ rfl HB.out HO.out (by unfold maxLen; omega) (by omega) ?_; intro v2 w2 h2 h2o; have H2 := Lib.hid h2.swap.drop; clear h2)
      obtain ⟨o2, c2, rfl⟩ := H2.out.own_shape
      go_roundw
      case rel =>
        refine ⟨k + 1, (q : Int) - 1, o2, c2, rfl, by omega, by omega, rfl, ?_⟩
        have e : (es.reverse.take (k + 1)).flatMap Ent.cells = (es.reverse.take k).flatMap Ent.cells ++ [.int .i64 x.t, .bool x.k.t, .int .i64 x.k.n, .string x.k.s, x.was] := by
          have hr : es.reverse[k]? = some x := by rw [List.getElem?_reverse (by omega), show es.length - 1 - k = q by omega]; exact HX.out
          rw [List.take_add_one, hr]
          simp [Ent.cells]
        rw [e]
        exact H2.out
      case measure => simp [intOf] <;> omega
    · go_wp2_with fail
      go_ret
      obtain ⟨D', g1, g2, g3⟩ := HSAT.out.own_give
      have ek : k = es.length - from_ := by omega
      refine ⟨_, rfl, D', g1, ?_, g3⟩
      rw [← ek, show (es.drop from_).reverse = es.reverse.take k from by rw [List.take_reverse, show es.length - k = from_ by omega]]
      exact g2

/-! ### the log of the reference -/
abbrev EA := Spot × List Val
def EntA (D : PH) (e : Ent) (a : EA) : Prop := e.t = a.1.t ∧ e.k = a.1.k ∧ RdP D 3 e.was a.2.length (a.2.flatMap Val.cells)
def EntsA (D : PH) (es : List Ent) (ps : List EA) : Prop := es.length = ps.length ∧ ∀ (i : Nat) e a, es[i]? = some e → ps[i]? = some a → EntA D e a
theorem EntA.mono {D D' : PH} {e : Ent} {a : EA} (h : EntA D e a) (le : PH.le D D') : EntA D' e a := ⟨h.1, h.2.1, h.2.2.mono le⟩
theorem EntsA.mono {D D' : PH} {es : List Ent} {ps : List EA} (h : EntsA D es ps) (le : PH.le D D') : EntsA D' es ps := ⟨h.1, fun i e a h1 h2 => (h.2 i e a h1 h2).mono le⟩
theorem EntsA.nil (D : PH) : EntsA D [] [] := ⟨rfl, fun i e a h => by simp at h⟩
theorem EntsA.snoc {D : PH} {es : List Ent} {ps : List EA} {e : Ent} {a : EA} (h : EntsA D es ps) (hc : EntA D e a) : EntsA D (es ++ [e]) (ps ++ [a]) := by
  refine ⟨by simp [h.1], fun i e' p' he hp => ?_⟩
  by_cases hi : i < es.length
  · rw [List.getElem?_append_left hi] at he
    rw [List.getElem?_append_left (by rw [← h.1]; exact hi)] at hp
    exact h.2 i e' p' he hp
  · rw [List.getElem?_append_right (by omega)] at he
    rw [List.getElem?_append_right (by rw [← h.1]; omega), ← h.1] at hp
    have h0 : i - es.length = 0 := by
      have := (List.getElem?_eq_some_iff.1 he).1
      simp at this
      omega
    rw [h0] at he hp
    simp at he hp
    subst he hp
    exact hc
theorem EntsA.take {D : PH} {es : List Ent} {ps : List EA} (h : EntsA D es ps) (n : Nat) : EntsA D (es.take n) (ps.take n) := by
  refine ⟨by simp [h.1], fun i e a h1 h2 => ?_⟩
  rw [List.getElem?_take] at h1 h2
  split at h1
  · rename_i hi
    rw [if_pos hi] at h2
    exact h.2 i e a h1 h2
  · cases h1
theorem EntsA.drop {D : PH} {es : List Ent} {ps : List EA} (h : EntsA D es ps) (n : Nat) : EntsA D (es.drop n) (ps.drop n) := by
  refine ⟨by simp [h.1], fun i e a h1 h2 => ?_⟩
  rw [List.getElem?_drop] at h1 h2
  exact h.2 _ e a h1 h2
theorem EntsA.reverse {D : PH} {es : List Ent} {ps : List EA} (h : EntsA D es ps) : EntsA D es.reverse ps.reverse := by
  refine ⟨by simp [h.1], fun i e a h1 h2 => ?_⟩
  have hl := (List.getElem?_eq_some_iff.1 h1).1
  simp at hl
  rw [List.getElem?_reverse hl] at h1
  rw [List.getElem?_reverse (by rw [← h.1]; exact hl), ← h.1] at h2
  exact h.2 _ e a h1 h2
theorem EntsA.one {D : PH} {es : List Ent} {ps : List EA} (h : EntsA D es ps) : ∀ e ∈ es, e.was.oneCell' = true := by
  intro e he
  obtain ⟨i, hi⟩ := List.getElem?_of_mem he
  have hl := (List.getElem?_eq_some_iff.1 hi).1
  have ha : ps[i]? = some (ps[i]'(by rw [← h.1]; exact hl)) := List.getElem?_eq_getElem _
  exact (h.2 i e _ hi ha).2.2.oneV

abbrev tRef : TypeId := 45
def svCells (m : LogM) : List Value := [.int .i64 (-1), .int .i64 (m.s1 - 1), .int .i64 (m.s2 - 1), .int .i64 (m.s3 - 1)]
/-- the cells of a log of the reference -/
def RefAt (D : PH) (lv sv mv : Value) (m : LogM) (ps : List EA) : Prop :=
  ∃ es, RdP D 5 lv es.length (es.flatMap Ent.cells) ∧ EntsA D es ps ∧ RdP D 1 sv 4 (svCells m) ∧ RdP D 5 mv m.met.length ((m.met.map Spot.ent).flatMap Ent.cells)
theorem RefAt.mono {D D' : PH} {lv sv mv : Value} {m : LogM} {ps : List EA} (h : RefAt D lv sv mv m ps) (le : PH.le D D') : RefAt D' lv sv mv m ps := by
  obtain ⟨es, h1, h2, h3, h4⟩ := h
  exact ⟨es, h1.mono le, h2.mono le, h3.mono le, h4.mono le⟩

theorem RefAt.shapes {D : PH} {lv sv mv : Value} {m : LogM} {ps : List EA} (h : RefAt D lv sv mv m ps) : ∃ lo lc so sc mo mc, lv = .slice lo ps.length lc ∧ sv = .slice so 4 sc ∧ mv = .slice mo m.met.length mc := by
  obtain ⟨es, h1, h2, h3, h4⟩ := h
  rw [h2.1] at h1
  obtain ⟨lo, lc, rfl⟩ := h1.shape
  obtain ⟨so, sc, rfl⟩ := h3.shape
  obtain ⟨mo, mc, rfl⟩ := h4.shape
  exact ⟨lo, lc, so, sc, mo, mc, rfl, rfl, rfl⟩
/-- what a function of the reference tells: a log -/
def TellsRef (B : World) (D : PH) (l : List HP) (room : Int) (m : LogM) (ps : List EA) (cs : Array Value) (w' : World) : Prop :=
  ∃ lv sv mv D', cs = #[.int .i64 room, lv, sv, mv] ∧ PH.le D D' ∧ RefAt D' lv sv mv m ps ∧ Sat B D' w' l
theorem rdP_block {D : PH} {h1 : PH} {b : Nat} {cs : Array Value} {t : TypeId} {size n : Nat} (h : blk b cs t h1) (le : PH.le h1 D) (hn : cs.toList.length = n * size) (hm : n ≤ maxLen) : RdP D size (.slice (some ⟨b, 0, none⟩) n n) n cs.toList :=
  ⟨hn, hm, _, n, rfl, Nat.le_refl _, hm, (fun h => by cases h), .inr ⟨b, 0, rfl, cs, t, (0, 0), le _ _ h, fun j u hu => by rw [Nat.zero_add]; simpa using hu⟩⟩

set_option maxHeartbeats 1000000 in
theorem newR_ok {B w : World} {D : PH} {l : List HP} (r : Int) (hs : Sat B D w l) :
    Calls Try.prog 16 #[.int .i64 r] w fun e w' => ∃ cs, e = .returned (.agg cs) ∧ TellsRef B D l (clampI r) (newM r) [] cs w' := by
  have HS := Lib.hid hs
  clear hs
  have fin : ∀ x : Int, x = clampI r → TellsRef B D l (clampI r) (newM r) [] #[.int .i64 x, .slice none 0 0, .slice (some ⟨w.heap.size + 1, 0, none⟩) 4 4, .slice none 0 0]
      ((w.alloc (.cells #[.int .i64 x, .slice none 0 0, .slice (some ⟨w.heap.size + 1, 0, none⟩) 4 4, .slice none 0 0] tRef)).alloc (.cells #[.int .i64 (-1), .int .i64 (-1), .int .i64 (-1), .int .i64 (-1)] 3)) := by
    rintro x rfl
    have h := (HS.out.alloc #[.int .i64 (clampI r), .slice none 0 0, .slice (some ⟨w.heap.size + 1, 0, none⟩) 4 4, .slice none 0 0] tRef).alloc #[.int .i64 (-1), .int .i64 (-1), .int .i64 (-1), .int .i64 (-1)] 3
    rw [World.size_alloc] at h
    obtain ⟨D', h1, g1, g2, g3, g4⟩ := h.give
    exact ⟨_, _, _, D', rfl, g3, ⟨[], RdP.nil _ _, EntsA.nil _, rdP_block g1 g2 rfl (by unfold maxLen; omega), RdP.nil _ _⟩, g4.drop⟩
  by_cases h0 : r < 0
  · have e : clampI r = 0 := by unfold clampI; rw [if_pos h0]
    have F := Lib.hid (fin 0 e.symm)
    clear fin e
    go_enter Try.func16, Try.ntmps16
    go_wp2
    exact bodyPost_ret (by simp [results, Try.results16, go_sem]) rfl ⟨_, rfl, F.out⟩
  · by_cases h1 : 60 < r
    · have e : clampI r = 60 := by unfold clampI; rw [if_neg h0, if_pos h1]
      have F := Lib.hid (fin 60 e.symm)
      clear fin e
      go_enter Try.func16, Try.ntmps16
      go_wp2
      exact bodyPost_ret (by simp [results, Try.results16, go_sem]) rfl ⟨_, rfl, F.out⟩
    · have e : clampI r = r := by unfold clampI; rw [if_neg h0, if_neg h1]
      have F := Lib.hid (fin r e.symm)
      clear fin e
      go_enter Try.func16, Try.ntmps16
      go_wp2
      exact bodyPost_ret (by simp [results, Try.results16, go_sem]) rfl ⟨_, rfl, F.out⟩
end Go.Proofs.Ytokcpmeoiblpfaa
