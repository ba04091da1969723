/- Joined texts: The store: the document's example. Arguments of the store's laws as they read (printed by genstopen.py). -/
import Derived.Test.YtcbklkcpjldcjaaJ31
import Derived.Test.YtcbklkcpjldcjaaJ33
import Derived.Test.YtcbklkcpjldcjaaJ27
/- The store: the document's example. -/
namespace Go.Proofs.Ytcbklkcpjldcjaa
open Go.ChangeShapes Go.WideShapes Go.ChangeAt Go.RowKit
set_option maxRecDepth 100000
set_option linter.unusedSimpArgs false

def nV (n : Int) : Val := ⟨false, n, ⟨#[]⟩⟩
theorem one_ok {B w : World} {D : PH} {l : List HP} (n : Int) (h : Sat B D w l) :
    Calls Try.prog 27 #[.int .i64 n] w fun e w' => ∃ v, e = .returned v ∧ Sat B D w' (ownS tV 3 v 1 (nV n).cells :: l) := by
  have h1 := h.own_fresh (e := tV) (size := 3) (n := 1) (cap := 1) (cs := #[.bool false, .int .i64 n, .string ⟨#[]⟩]) (xs := (nV n).cells) (by omega) (by unfold maxLen; omega) (by simp) rfl (Val.one _)
  have H := Lib.hid h1
  clear h h1
  go_enter Try.func27, Try.ntmps27
  go_wp2_with fail
  go_ret
  exact ⟨_, rfl, H.out⟩
/-- tables that lie among what is owned -/
theorem tabs_one {B w : World} {D : PH} {b1 b2 : Nat} {c : List Bool} {X l : List HP} (hc : c.length ≤ 1000) (h : Sat B D w (X ++ (blk b2 #[.slice (some ⟨b1, 0, none⟩) c.length c.length] tTab :: blk b1 (c.flatMap bcells).toArray tB :: l))) :
    TabsRd w (.slice (some ⟨b2, 0, none⟩) 1 1) [c] := by
  have h2 := h.blk X.length (by rw [List.getElem?_append_right (Nat.le_refl _), Nat.sub_self]; rfl)
  have h1 := h.blk (X.length + 1) (by rw [List.getElem?_append_right (by omega), Nat.add_sub_cancel_left]; rfl)
  refine ⟨[.slice (some ⟨b1, 0, none⟩) c.length c.length], rfl, by intro u hu; simp at hu; subst hu; rfl, rd_block (size := 1) (n := 1) h2 rfl (by unfold maxLen; omega), fun i u c' hu hc' => ?_⟩
  cases i with
  | zero =>
    simp at hu hc'
    subst hu hc'
    exact rd_block (size := 1) h1 (by rw [List.toList_toArray]; exact flat_len blen c) (by unfold maxLen; omega)
  | succ i => simp at hu
theorem row_in {B : World} {D : PH} {v : Value} {r : List Val} {l : List HP} (W : World) (X : HP) (h : Sat B D W (X :: ownS tV 3 v r.length (r.flatMap Val.cells) :: l)) : RowRd W v r := (h.own 1 rfl).rd

def aw0 : StM := newM [[false]] 1
def aw1 : StM := (aw0.ins 0 [nV 1]).1
def aw2 : StM := (aw1.ins 0 [nV 2]).1
def aw3 : StM := (aw2.rmv 0 (nV 1)).1
def aw4 : StM := (aw3.ins 0 [nV 2]).1
def aw5 : StM := (aw4.ins 0 [nV 1]).1
theorem aw0_good : StI 0 aw0 := newM_good (by decide)
theorem aw1_good : StI 1 aw1 := aw0_good.ins 0 [nV 1]
theorem aw2_good : StI 2 aw2 := aw1_good.ins 0 [nV 2]
theorem aw3_good : StI 3 aw3 := aw2_good.rmv 0 (nV 1)
theorem aw4_good : StI 4 aw4 := aw3_good.ins 0 [nV 2]
theorem aw5_good : StI 5 aw5 := aw4_good.ins 0 [nV 1]
theorem awR : (aw0.ins 0 [nV 1]).2 = (1, 0) ∧ (aw1.ins 0 [nV 2]).2 = (0, 62) ∧ (aw2.rmv 0 (nV 1)).2 = 0 ∧ (aw3.ins 0 [nV 2]).2 = (0, 62) ∧ (aw4.ins 0 [nV 1]).2 = (2, 0) ∧ aw5.used = 1 ∧ (scanA aw5 0 spn0).length = 1 := by
  refine ⟨?_, ?_, ?_, ?_, ?_, ?_, ?_⟩ <;> decide

theorem new_yes {B : World} {D : PH} {cs : List (List Bool)} {room : Int} {l : List HP} {e : Ending} {w' : World} (hm : mayNew cs room = true) (h : NewPost B D cs room l e w') : ∃ s, e = .returned (.pointer (some ⟨s, 0, none⟩)) ∧ Sat B D w' (storeB s 0 (newM cs room) :: l) := by
  rcases h with ⟨h, _⟩ | ⟨_, h⟩
  · rw [hm] at h; cases h
  · exact h
theorem rows_shape {B w : World} {D : PH} {v : Value} {rs : List (List Val)} {l : List HP} (h : Sat B D w (rowsP v rs :: l)) : ∃ ao c, v = .slice ao rs.length c := by
  obtain ⟨xs, hx, hs⟩ := Sat.open_ex h
  obtain ⟨ao, c, rfl⟩ := hs.own_shape
  exact ⟨ao, c, by rw [← hx, List.length_map]⟩

set_option maxHeartbeats 8000000 in
theorem awake_ok (w : World) : Calls Try.prog 9 #[] w fun e w' => e = .returned (.bool true) ∧ Kept (fun _ => False) w w' := by
  obtain ⟨r1, r2, r3, r4, r5, r6, r7⟩ := awR
  have hs0 := ((Sat.start w).alloc #[.bool false] tB).alloc #[.slice (some ⟨w.heap.size, 0, none⟩) 1 1] tTab
  rw [World.size_alloc] at hs0
  have HNEW := Lib.hid (fun (W : World) (h : Sat w (heapOf w) W [blk (w.heap.size + 1) #[.slice (some ⟨w.heap.size, 0, none⟩) 1 1] tTab, blk w.heap.size #[.bool false] tB]) => SNew_ok (cv := .slice (some ⟨w.heap.size + 1, 0, none⟩) 1 1) (cs := [[false]]) 1 (fun W X h => tabs_one (c := [false]) (by simp) h) h)
  have HS0 := Lib.hid hs0
  have R1 := Lib.hid r1
  have R2 := Lib.hid r2
  have R3 := Lib.hid r3
  have R4 := Lib.hid r4
  have R5 := Lib.hid r5
  have R6 := Lib.hid r6
  have R7 := Lib.hid r7
  clear hs0 r1 r2 r3 r4 r5 r6 r7
  go_enter Try.func9, Try.ntmps9
  go_upto_region 2 with (go_at_call 10; refine (HNEW.out _ HS0.out).mono ?_; intro e1 w1 h1; obtain ⟨s, rfl, hs1⟩ := new_yes (by decide) h1; have HS1 := Lib.hid hs1; clear h1 hs1)
  have HS1 := Lib.hid (show Sat w (heapOf w) w1 [storeB s 0 aw0] from HS1.out.swap.drop.swap.drop)
  go_upto_region 5 with (first | (go_at_call 27; refine (one_ok 1 HS1.out).mono ?_; rintro e2a w2a ⟨v2, rfl, hs2⟩; have HA2 := Lib.hid hs2.swap; clear hs2) | (go_at_call 11; refine (Insert_ok (A := aw0) (r := [nV 1]) 0 aw0_good (by omega) row_in HA2.out).mono ?_; rw [R1.out]; rintro e2 w2 ⟨rfl, hs2⟩; have HS2 := Lib.hid (show Sat w (heapOf w) w2 [storeB s 1 aw1] from hs2.swap.drop); clear hs2))
  go_upto_region 6 with (first | (go_at_call 27; refine (one_ok 2 HS2.out).mono ?_; rintro e3a w3a ⟨v3, rfl, hs3⟩; have HA3 := Lib.hid hs3.swap; clear hs3) | (go_at_call 11; refine (Insert_ok (A := aw1) (r := [nV 2]) 0 aw1_good (by omega) row_in HA3.out).mono ?_; rw [R2.out]; rintro e3 w3 ⟨rfl, hs3⟩; have HS3 := Lib.hid (show Sat w (heapOf w) w3 [storeB s 2 aw2] from hs3.swap.drop); clear hs3))
  go_upto_region 7 with (go_at_call 20; refine (Remove_ok (A := aw2) 0 (nV 1) aw2_good (by omega) HS3.out).mono ?_; rw [R3.out]; rintro e4 w4 ⟨rfl, hs4⟩; have HS4 := Lib.hid (show Sat w (heapOf w) w4 [storeB s 3 aw3] from hs4); clear hs4)
  go_upto_region 8 with (first | (go_at_call 27; refine (one_ok 2 HS4.out).mono ?_; rintro e5a w5a ⟨v5, rfl, hs5⟩; have HA5 := Lib.hid hs5.swap; clear hs5) | (go_at_call 11; refine (Insert_ok (A := aw3) (r := [nV 2]) 0 aw3_good (by omega) row_in HA5.out).mono ?_; rw [R4.out]; rintro e5 w5 ⟨rfl, hs5⟩; have HS5 := Lib.hid (show Sat w (heapOf w) w5 [storeB s 4 aw4] from hs5.swap.drop); clear hs5))
  go_upto_region 9 with (first | (go_at_call 27; refine (one_ok 1 HS5.out).mono ?_; rintro e6a w6a ⟨v6, rfl, hs6⟩; have HA6 := Lib.hid hs6.swap; clear hs6) | (go_at_call 11; refine (Insert_ok (A := aw4) (r := [nV 1]) 0 aw4_good (by omega) row_in HA6.out).mono ?_; rw [R5.out]; rintro e6 w6 ⟨rfl, hs6⟩; have HS6 := Lib.hid (show Sat w (heapOf w) w6 [storeB s 5 aw5] from hs6.swap.drop); clear hs6))
  go_wp2_with (first | (go_at_call 13; refine (Used_ok HS6.out).mono ?_; rw [R6.out]; rintro e7 w7 ⟨rfl, rfl⟩) | (go_at_call 15; refine (rows_ok 0 spn0 aw5_good HS6.out).mono ?_; rintro e8 w8 ⟨v8, rfl, hs8⟩; obtain ⟨a8, c8, rfl⟩ := rows_shape hs8; rw [R7.out] at hs8; rw [R7.out]; have HS8 := Lib.hid hs8; clear hs8))
  go_ret
  exact ⟨rfl, HS8.out.drop.drop.end_ (PH.le.refl _)⟩
end Go.Proofs.Ytcbklkcpjldcjaa

/- Arguments of the store's laws as they read (printed by genstopen.py). -/
namespace Go.Proofs.Ytcbklkcpjldcjaa
open Go.ChangeShapes Go.WideShapes Go.ChangeAt Go.RowKit Go.Deep
set_option maxRecDepth 100000
set_option linter.unusedSimpArgs false

theorem agg_of_cells {v : Value} {l : List Value} (h : v.cells.toList = l) (hl : l.length ≠ 1) : v = .agg l.toArray := by
  cases v <;> simp [Value.cells] at h <;> subst h <;> simp at hl ⊢

section
variable {H : Type} {enc : TypeId × Value → H} {w : World} {base : Nat} {spare : Nat → Bool} {held : Bool}
theorem cellsVal : Try.prog.cellsOf 23 = 3 := by kernel_rfl
theorem cellsInt : Try.prog.cellsOf 3 = 1 := by kernel_rfl
theorem cellsI64 : Try.prog.cellsOf 2 = 1 := by kernel_rfl
theorem cellsBool : Try.prog.cellsOf 4 = 1 := by kernel_rfl
theorem cellsStr : Try.prog.cellsOf 9 = 1 := by kernel_rfl
theorem cellsSpan : Try.prog.cellsOf 43 = 11 := by kernel_rfl
theorem open_val {fuel : Nat} {cs : List Value} {x : DataW H × List MemPlace} (h : DataW.trod enc Try.prog w base spare held fuel 23 cs = some x) : ∃ v : Val, cs = v.cells := by
  obtain ⟨y0, y1, y2, n, rfl, hl, t0, t1, t2⟩ := trod_struct3 Try.underlying23 h
  rw [cellsVal] at hl
  simp only [cellsBool, cellsI64, cellsStr] at t0 t1 t2
  match cs, hl with
  | [c0, c1, c2], _ =>
    simp only [List.drop, List.take] at t0 t1 t2
    obtain ⟨b, hb, _⟩ := DataW.trod_bool Try.underlying4 t0
    obtain ⟨z, hz, _, wz⟩ := DataW.trod_int Try.underlying2 t1
    obtain ⟨s, hs, _, ws⟩ := DataW.trod_string Try.underlying9 t2
    simp only [List.cons.injEq, and_true] at hb hz hs
    subst hb hz hs
    exact ⟨⟨b, z, s⟩, rfl⟩
theorem trod_struct7 {P : Program} {t : TypeId} {f0 f1 f2 f3 f4 f5 f6 : Field} {fuel : Nat} {cs : List Value} {x : DataW H × List MemPlace} (ht : P.underlying t = some (.struct #[f0, f1, f2, f3, f4, f5, f6])) (h : DataW.trod enc P w base spare held fuel t cs = some x) :
    ∃ y0 y1 y2 y3 y4 y5 y6 n, cs.length = P.cellsOf t ∧ DataW.trod enc P w base spare held n f0.type ((cs.drop f0.offset).take (P.cellsOf f0.type)) = some y0 ∧ DataW.trod enc P w base spare held n f1.type ((cs.drop f1.offset).take (P.cellsOf f1.type)) = some y1 ∧
      DataW.trod enc P w base spare held n f2.type ((cs.drop f2.offset).take (P.cellsOf f2.type)) = some y2 ∧ DataW.trod enc P w base spare held n f3.type ((cs.drop f3.offset).take (P.cellsOf f3.type)) = some y3 ∧ DataW.trod enc P w base spare held n f4.type ((cs.drop f4.offset).take (P.cellsOf f4.type)) = some y4 ∧
      DataW.trod enc P w base spare held n f5.type ((cs.drop f5.offset).take (P.cellsOf f5.type)) = some y5 ∧ DataW.trod enc P w base spare held n f6.type ((cs.drop f6.offset).take (P.cellsOf f6.type)) = some y6 := by
  obtain ⟨xs, n, _, rfl, hl, hlen, hf⟩ := DataW.trod_struct ht h
  match xs, hlen with
  | [y0, y1, y2, y3, y4, y5, y6], _ => exact ⟨y0, y1, y2, y3, y4, y5, y6, n, hl, by simpa using hf 0 f0 rfl, by simpa using hf 1 f1 rfl, by simpa using hf 2 f2 rfl, by simpa using hf 3 f3 rfl, by simpa using hf 4 f4 rfl, by simpa using hf 5 f5 rfl, by simpa using hf 6 f6 rfl⟩
theorem open_span {fuel : Nat} {cs : List Value} {x : DataW H × List MemPlace} (h : DataW.trod enc Try.prog w base spare held fuel 43 cs = some x) : ∃ s : Spn, cs = s.cells.toList := by
  obtain ⟨y0, y1, y2, y3, y4, y5, y6, n, hl, t0, t1, t2, t3, t4, t5, t6⟩ := trod_struct7 Try.underlying43 h
  rw [cellsSpan] at hl
  simp only [cellsBool, cellsVal] at t0 t1 t2 t3 t4 t5 t6
  match cs, hl with
  | [c0, c1, c2, c3, c4, c5, c6, c7, c8, c9, c10], _ =>
      simp only [List.drop, List.take] at t0 t1 t2 t3 t4 t5 t6
      obtain ⟨b0, hb0, _⟩ := DataW.trod_bool Try.underlying4 t0
      obtain ⟨b1, hb1, _⟩ := DataW.trod_bool Try.underlying4 t1
      obtain ⟨b2, hb2, _⟩ := DataW.trod_bool Try.underlying4 t2
      obtain ⟨k3, hk3⟩ := open_val t3
      obtain ⟨b4, hb4, _⟩ := DataW.trod_bool Try.underlying4 t4
      obtain ⟨b5, hb5, _⟩ := DataW.trod_bool Try.underlying4 t5
      obtain ⟨k6, hk6⟩ := open_val t6
      simp only [List.cons.injEq, and_true] at hb0 hb1 hb2 hb4 hb5
      simp only [Val.cells, List.cons.injEq, and_true] at hk3 hk6
      obtain ⟨rfl, rfl, rfl⟩ := hk3
      obtain ⟨rfl, rfl, rfl⟩ := hk6
      subst hb0 hb1 hb2 hb4 hb5
      exact ⟨⟨b0, b1, b2, k3, b4, b5, k6⟩, rfl⟩
end
end Go.Proofs.Ytcbklkcpjldcjaa
