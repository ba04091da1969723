/- The tree: contracts of New, Len, Depth, Used, Room. -/
import Derived.Test.YtjijemeabfiipaaBt6
namespace Go.Proofs.Ytjijemeabfiipaa
open Go.ChangeShapes Go.WideShapes Go.ChangeAt Go.RowKit
set_option maxRecDepth 100000
set_option linter.unusedSimpArgs false

def TM.empty : TM := ⟨[], [], ⟨-1, 0, 0⟩⟩
theorem good_empty : Good TM.empty [] := ⟨by simp, by intro x hx; simp at hx, rfl, .inl ⟨by decide, rfl, rfl, by simp [TM.empty]⟩⟩
theorem small_empty : Small TM.empty [] 0 := ⟨by decide, by decide, by decide⟩

theorem New_ok {B w : World} {D : PH} {l : List HP} (h : Sat B D w l) :
    Calls Try.prog 11 #[] w fun e w' => ∃ t, e = .returned (.pointer (some ⟨t, 0, none⟩)) ∧ TreeA B D w' t TM.empty l := by
  have h1 := h.alloc (treeCells (.slice none 0 0) (.slice none 0 0) TM.empty.k) tT
  have h2 : Sat B D (w.alloc (.cells (treeCells (.slice none 0 0) (.slice none 0 0) TM.empty.k) tT)) (group [] :: blk w.heap.size (treeCells (.slice none 0 0) (.slice none 0 0) TM.empty.k) tT :: l) := Sat.togroup (L := []) h1
  have h3 := (h2.own_nil tI 1).own_nil tN 4
  have h4 : TreeA B D (w.alloc (.cells (treeCells (.slice none 0 0) (.slice none 0 0) TM.empty.k) tT)) w.heap.size TM.empty l :=
    ⟨.slice none 0 0, .slice none 0 0, [], rfl, (h3.perm (List.perm_middle (l₁ := [ownS tN 4 (.slice none 0 0) 0 [], ownS tI 1 (.slice none 0 0) 0 [], group []]) (l₂ := l)))⟩
  have H := Lib.hid h4
  clear h h1 h2 h3 h4
  go_enter Try.func11, Try.ntmps11
  go_wp2_with fail
  go_ret
  exact ⟨_, rfl, H.out⟩

theorem Len_ok {B w : World} {D : PH} {t : Nat} {T : TM} {l : List HP} (h : TreeA B D w t T l) :
    Calls Try.prog 20 #[.pointer (some ⟨t, 0, none⟩)] w fun e w' => e = .returned (.int .i64 T.k.many) ∧ w = w' := by
  obtain ⟨nv, fv, ns, hns, hs⟩ := h
  obtain ⟨t0, t1, t2, t3, t4, tf⟩ := hs.tcells
  clear hs hns
  go_enter Try.func20, Try.ntmps20
  go_wp2_with fail
  go_ret
  exact ⟨rfl, rfl⟩
theorem Depth_ok {B w : World} {D : PH} {t : Nat} {T : TM} {l : List HP} (h : TreeA B D w t T l) :
    Calls Try.prog 21 #[.pointer (some ⟨t, 0, none⟩)] w fun e w' => e = .returned (.int .i64 T.k.depth) ∧ w = w' := by
  obtain ⟨nv, fv, ns, hns, hs⟩ := h
  obtain ⟨t0, t1, t2, t3, t4, tf⟩ := hs.tcells
  clear hs hns
  go_enter Try.func21, Try.ntmps21
  go_wp2_with fail
  go_ret
  exact ⟨rfl, rfl⟩
theorem Used_ok {B w : World} {D : PH} {t : Nat} {T : TM} {l : List HP} (hb : T.nodes.length ≤ 1000000) (hf : T.free.length ≤ T.nodes.length) (h : TreeA B D w t T l) :
    Calls Try.prog 22 #[.pointer (some ⟨t, 0, none⟩)] w fun e w' => e = .returned (.int .i64 ((T.nodes.length : Int) - T.free.length)) ∧ Kept (fun _ => False) w w' := by
  obtain ⟨nv, fv, ns, hns, hs⟩ := h
  obtain ⟨t0, t1, t2, t3, t4, tf⟩ := hs.tcells
  obtain ⟨o, c, rfl, hnm⟩ := hs.nv_any
  obtain ⟨fo, fc, rfl, hfm⟩ := hs.fv_any
  have hl : T.nodes.length = ns.length := by rw [← hns, List.length_map]
  rw [hl] at hb hf ⊢
  have hw : IntKind.i64.wrap ((ns.length : Int) - (T.free.length : Int)) = (ns.length : Int) - (T.free.length : Int) := i64w _ (by omega) (by omega)
  clear hs hns
  go_enter Try.func22, Try.ntmps22
  go_upto_region 3 with (fail)
  go_quiet (fail)
  go_wp2_with fail
  go_ret
  exact ⟨rfl, (Kept.refl _ _).drewN _⟩
theorem Room_ok {B w : World} {D : PH} {t : Nat} {T : TM} {l : List HP} (h : TreeA B D w t T l) :
    Calls Try.prog 23 #[.pointer (some ⟨t, 0, none⟩)] w fun e w' => e = .returned (.int .i64 T.nodes.length) ∧ w = w' := by
  obtain ⟨nv, fv, ns, hns, hs⟩ := h
  obtain ⟨t0, t1, t2, t3, t4, tf⟩ := hs.tcells
  obtain ⟨o, c, rfl, hnm⟩ := hs.nv_any
  have hl : T.nodes.length = ns.length := by rw [← hns, List.length_map]
  rw [hl]
  clear hs hns
  go_enter Try.func23, Try.ntmps23
  go_wp2_with fail
  go_ret
  exact ⟨rfl, rfl⟩
theorem TreeA.end_ {B w : World} {D : PH} {t : Nat} {T : TM} {l : List HP} (h : TreeA B D w t T l) (hD : PH.le (heapOf B) D) : Kept (fun _ => False) B w := by
  obtain ⟨nv, fv, ns, hns, hs⟩ := h
  exact Sat.end_ hs hD
end Go.Proofs.Ytjijemeabfiipaa
