/- The tree: contracts of slot, give, size, below, Len, Depth, Used, Room. -/
import Derived.Test.YtjijemeabfiipaaTreeMem
namespace Go.Proofs.Ytjijemeabfiipaa
open Go.ChangeShapes Go.WideShapes Go.ChangeAt Go.RowKit
set_option maxRecDepth 100000
set_option linter.unusedSimpArgs false

/-- a tree as data -/
structure TM where
  nodes : List NodeM
  free : List Nat
  k : Num
def freshM (leaf : Bool) : NodeM := ⟨leaf, [], [], []⟩
def TreeA (B : World) (D : PH) (w : World) (t : Nat) (T : TM) (l : List HP) : Prop := ∃ nv fv ns, ns.map Prod.snd = T.nodes ∧ TreeS B D w t nv fv ns T.free T.k l
theorem TreeA.kept {B w w' : World} {D : PH} {t : Nat} {T : TM} {l : List HP} (h : TreeA B D w t T l) (hk : Kept (fun _ => False) w w') : TreeA B D w' t T l := by
  obtain ⟨nv, fv, ns, h1, h2⟩ := h
  exact ⟨nv, fv, ns, h1, h2.kept hk⟩
theorem TreeA.drew {B w : World} {D : PH} {t : Nat} {T : TM} {l : List HP} (h : TreeA B D w t T l) : TreeA B D w.drew t T l := h.kept ((Kept.refl _ _).drew)
theorem get_node {ns : List NP} {nodes : List NodeM} (h : ns.map Prod.snd = nodes) {i : Nat} {m : NodeM} (hi : nodes[i]? = some m) : ∃ v, ns[i]? = some (v, m) := by
  subst h
  rw [List.getElem?_map] at hi
  cases hn : ns[i]? with
  | none => rw [hn] at hi; cases hi
  | some p => rw [hn] at hi; cases hi; exact ⟨p.1, rfl⟩

def TM.slot (T : TM) (leaf : Bool) : Nat × TM := match T.free.getLast? with
  | some i => (i, { T with nodes := T.nodes.set i (freshM leaf), free := T.free.dropLast })
  | none => (T.nodes.length, { T with nodes := T.nodes ++ [freshM leaf] })

set_option maxHeartbeats 2000000 in
theorem slot_ok {B w : World} {D : PH} {t : Nat} {T : TM} {l : List HP} (leaf : Bool) (hfr : ∀ i, T.free.getLast? = some i → i < T.nodes.length) (hbig : T.nodes.length ≤ 1000000) (hfb : T.free.length ≤ 1000000) (h : TreeA B D w t T l) :
    Calls Try.prog 28 #[.pointer (some ⟨t, 0, none⟩), .bool leaf] w fun e w' => e = .returned (.int .i64 (T.slot leaf).1) ∧ TreeA B D w' t (T.slot leaf).2 l := by
  obtain ⟨nodes, free, k⟩ := T
  obtain ⟨nv, fv, ns, hns, hs⟩ := h
  dsimp only at *
  subst hns
  rw [List.length_map] at hbig
  obtain ⟨t0, t1, t2, t3, t4, tf⟩ := hs.tcells
  obtain ⟨o, c, rfl, hnm⟩ := hs.nv_any
  obtain ⟨fo, fc, rfl, hfm⟩ := hs.fv_any
  have hcc : free = [] ∨ ∃ fr i, free = fr ++ [i] := by
    rcases List.eq_nil_or_concat free with h | ⟨fr, i, h⟩
    · exact .inl h
    · exact .inr ⟨fr, i, by rw [h, List.concat_eq_append]⟩
  rcases hcc with rfl | ⟨fr, i, rfl⟩
  · have HS := Lib.hid hs
    have hslot : TM.slot ⟨ns.map Prod.snd, [], k⟩ leaf = (ns.length, ⟨ns.map Prod.snd ++ [freshM leaf], [], k⟩) := by simp [TM.slot]
    have HSL := Lib.hid hslot
    have hnew := Sat.alloc hs #[.bool leaf, .slice none 0 0, .slice none 0 0, .slice none 0 0] tN
    have hb := rd_block (size := 4) (n := 1) hnew.heap_blk rfl (by unfold maxLen; omega)
    have hn1 := (hnew.swap.perm ((List.Perm.swap _ _ _).cons _)).swap
    have HN := Lib.hid hn1
    have HB := Lib.hid hb
    obtain ⟨i0, hi, hz0, hz1, hz2⟩ := info_parts infoNode
    have HI := Lib.hid (And.intro hi (And.intro hz0 (And.intro hz1 hz2)))
    have HO := Lib.hid (show ∀ u ∈ [Value.bool leaf, .slice none 0 0, .slice none 0 0, .slice none 0 0], u.oneCell' = true by intro u hu; simp at hu; rcases hu with rfl | rfl <;> rfl)
    clear hs hslot hnew hn1 hb hi hz0 hz1 hz2
    dsimp only [List.length_nil] at *
    go_enter Try.func28, Try.ntmps28
    go_upto_region 8 with (at_builtin; refine wpList_append_Sat _ rfl _ _ 57 rfl tN i0 _ 4 80 Try.underlying57 HI.out.1 HI.out.2.1 HI.out.2.2.1 HI.out.2.2.2 rfl _ _ _ rfl HN.out _ 1 _ rfl HB.out HO.out (by unfold maxLen; omega) (by omega) ?_; intro v2 w2 h2 h2o; obtain ⟨g2, c2, rfl, _, _⟩ := (h2.own 0 rfl).form (by omega); clear t0 t1 t2 t3 t4 tf; obtain ⟨t0, t1, t2, t3, t4, tf⟩ := cells5 (h2.blk 1 rfl); have H2 := Lib.hid h2; clear h2)
    have hp := TreeS.push leaf (H2.out.perm ((List.Perm.swap _ _ _).cons _ |>.trans ((List.Perm.swap _ _ _)))).drop
    obtain ⟨W, hW, hs2⟩ := hp.hide
    rw [← hW]
    clear hW t0 t1 t2 t3 t4 tf hp H2
    obtain ⟨t0, t1, t2, t3, t4, tf⟩ := hs2.tcells
    have HS2 := Lib.hid hs2
    clear hs2
    go_wp2_with (fail)
    go_ret
    rw [HSL.out]
    exact ⟨by simp, _, _, _, by rw [List.map_append]; rfl, HS2.out⟩
  · have HS := Lib.hid hs
    have hslot : TM.slot ⟨ns.map Prod.snd, fr ++ [i], k⟩ leaf = (i, ⟨(ns.map Prod.snd).set i (freshM leaf), fr, k⟩) := by simp [TM.slot]
    have HSL := Lib.hid hslot
    have hi := hfr i (by simp)
    rw [List.length_map] at hi
    obtain ⟨p, hp⟩ : ∃ p, ns[i]? = some p := ⟨ns[i], List.getElem?_eq_getElem hi⟩
    obtain ⟨g, cg, hv, _, _⟩ := hs.nv_some (by omega)
    cases hv
    obtain ⟨n0, n1, n2, n3, nf⟩ := hs.node_cells hp
    obtain ⟨fg, fcc, hv, hfc1, hfc2⟩ := (Sat.own hs 2 rfl).form (by simp)
    cases hv
    have hlast := (Sat.own hs 2 rfl).cells fr.length (.int .i64 i) (by rw [List.flatMap_append, List.getElem?_append_right (by rw [flat_len nlen]; omega), flat_len nlen]; simp [Proofs.Ytjijemeabfiipaa.ncells])
    have HP := Lib.hid hp
    have hfree := hs.set_free (fr' := fr) (fun _ hh => by
      have := hh.own_cut (m := fr.length) (c := fc) (by simp) (by simp at hfc1; omega) (by omega)
      have e : ((fr ++ [i]).flatMap Proofs.Ytjijemeabfiipaa.ncells).take (fr.length * 1) = fr.flatMap Proofs.Ytjijemeabfiipaa.ncells := by
        rw [List.flatMap_append, List.take_append_of_le_length (by rw [flat_len nlen]; omega), List.take_of_length_le (by rw [flat_len nlen]; omega)]
      rw [e] at this
      exact this)
    have HF := Lib.hid hfree
    simp only [List.length_append, List.length_singleton] at *
    unfold maxLen at hfc2
    have hw1 : IntKind.i64.wrap ((fr.length : Int) + 1 - 1) = (fr.length : Int) := by rw [show (fr.length : Int) + 1 - 1 = fr.length by omega]; exact IntWalk.i64_in _ (by omega)
    have hib : (i : Int) < (ns.length : Int) := by omega
    clear hs hslot hp hfr hfree
    go_enter Try.func28, Try.ntmps28
    go_upto_region 5 with (fail)
    obtain ⟨W, hW, hs2⟩ := HF.out.hide
    rw [← hW]
    clear hW t0 t1 t2 t3 t4 tf n0 n1 n2 n3 nf HF hlast
    obtain ⟨t0, t1, t2, t3, t4, tf⟩ := hs2.tcells
    obtain ⟨n0, n1, n2, n3, nf⟩ := hs2.node_cells HP.out
    have HS2 := Lib.hid (hs2.reset HP.out leaf)
    clear hs2
    go_wp2_with (fail)
    go_ret
    rw [HSL.out]
    exact ⟨rfl, _, _, _, by rw [List.map_set]; rfl, HS2.out⟩
end Go.Proofs.Ytjijemeabfiipaa
