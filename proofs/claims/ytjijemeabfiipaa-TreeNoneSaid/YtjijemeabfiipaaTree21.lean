/- The tree: contracts of leaf, Get. -/
import Derived.Test.YtjijemeabfiipaaTree20
namespace Go.Proofs.Ytjijemeabfiipaa
open Go.ChangeShapes Go.WideShapes Go.ChangeAt Go.RowKit
set_option maxRecDepth 100000
set_option linter.unusedSimpArgs false

/-- from a node down to the leaf in which a key is to be found -/
inductive TM.Leads (T : TM) (k : Val) : Nat → Nat → Nat → Prop
  | leaf {i : Nat} {m : NodeM} (hi : T.nodes[i]? = some m) (hl : m.leaf = true) : TM.Leads T k 0 i i
  | inner {n i kid j : Nat} {m : NodeM} (hi : T.nodes[i]? = some m) (hl : m.leaf = false) (hkb : m.keys.length ≤ 1000) (hc : m.kids[belowF m.keys k]? = some kid) (h : TM.Leads T k n kid j) : TM.Leads T k (n + 1) i j

theorem TM.Leads.uniq {T : TM} {k : Val} {n i j : Nat} (h : T.Leads k n i j) : ∀ {n' j' : Nat}, T.Leads k n' i j' → n = n' ∧ j = j' := by
  induction h with
  | leaf hi hl =>
    intro n' j' h'
    cases h' with
    | leaf => exact ⟨rfl, rfl⟩
    | inner hi' hl' => rw [hi] at hi'; cases hi'; rw [hl] at hl'; cases hl'
  | inner hi hl hkb hc h ih =>
    intro n' j' h'
    cases h' with
    | leaf hi' hl' => rw [hi] at hi'; cases hi'; rw [hl] at hl'; cases hl'
    | inner hi' hl' hkb' hc' h' =>
      rw [hi] at hi'; cases hi'
      rw [hc] at hc'; cases hc'
      obtain ⟨e1, e2⟩ := ih h'
      exact ⟨by rw [e1], e2⟩
open Classical in
noncomputable def TM.lh (T : TM) (k : Val) (i : Nat) : Nat := if h : ∃ n j, T.Leads k n i j then h.choose else 0
theorem TM.lh_eq {T : TM} {k : Val} {n i j : Nat} (h : T.Leads k n i j) : T.lh k i = n := by
  unfold TM.lh
  have hex : ∃ n j, T.Leads k n i j := ⟨n, j, h⟩
  rw [dif_pos hex]
  obtain ⟨j', hj'⟩ := hex.choose_spec
  exact (hj'.uniq h).1

set_option maxHeartbeats 3000000 in
theorem leaf_ok {B w : World} {D : PH} {t g c n r j : Nat} {fv : Value} {ns : List NP} {T : TM} {l : List HP} {k : Val} (hns : ns.map Prod.snd = T.nodes) (hroot : T.k.root = (r : Int)) (hld : T.Leads k n r j)
    (hs : TreeS B D w t (.slice (some ⟨g, 0, none⟩) ns.length c) fv ns T.free T.k l) :
    Calls Try.prog 39 #[.pointer (some ⟨t, 0, none⟩), k.v] w fun e w' => e = .returned (.pointer (some ⟨g, j * 4, none⟩)) ∧ Kept (fun _ => False) w w' := by
  have hk1 : Kept (fun _ => False) w (w.alloc (.cells #[.bool k.t, .int .i64 k.n, .string k.s] tV)) := (Kept.refl _ _).alloc _
  have hb1 : (w.alloc (.cells #[.bool k.t, .int .i64 k.n, .string k.s] tV)).heap[w.heap.size]? = some (.cells #[.bool k.t, .int .i64 k.n, .string k.s] tV (0, 0)) := heap_alloc_self w _
  obtain ⟨_, _, hv, hcm⟩ := hs.nv_any
  cases hv
  obtain ⟨_, _, _, _, hcc⟩ : ∃ _ : Unit, ∃ _ : Unit, ∃ _ : Unit, ∃ _ : Unit, ns.length ≤ c := by
    obtain ⟨_, _, hv, h1, _⟩ := (Sat.own hs 1 rfl).rd.2.2
    cases hv
    exact ⟨(), (), (), (), h1⟩
  unfold maxLen at hcm
  have HS := Lib.hid hs
  have HK1 := Lib.hid hk1
  have HB1 := Lib.hid hb1
  have HNS := Lib.hid hns
  have HLD := Lib.hid hld
  have HRT := Lib.hid hroot
  obtain ⟨t0, t1, t2, t3, t4, tf⟩ := (hs.kept hk1).tcells
  rw [hroot] at t2
  have hr0 : ¬ ((r : Int) < 0) := by omega
  clear hs hk1 hb1 hns hld hroot
  dsimp only [Val.v]
  go_enter Try.func39, Try.ntmps39
  go_upto_region 1 with (fail)
  obtain ⟨W, hW⟩ : ∃ W, W = w.alloc (.cells #[.bool k.t, .int .i64 k.n, .string k.s] tV) := ⟨_, rfl⟩
  rw [← hW] at HK1 HB1 t0 t1 t2 t3 t4 tf ⊢
  generalize w.heap.size = bk at HB1 ⊢
  clear hW
  go_wp2_with (fail)
  clear t0 t1 t2 t3 t4 tf
  go_loopw [5] (fun idx wr => ∃ i n', idx = .int .i64 (i : Nat) ∧ T.Leads k n' i j ∧ Kept (fun _ => False) W wr) (fun idx _ => T.lh k (intOf idx).toNat)
  case atStart => exact ⟨r, n, rfl, HLD.out, Kept.refl _ _⟩
  case round =>
    obtain ⟨i, n', rfl, hld, hk⟩ := hrel
    have hs2 := (HS.out.kept HK1.out).kept hk
    obtain ⟨t0, t1, t2, t3, t4, tf⟩ := hs2.tcells
    rw [HRT.out] at t2
    cases hld with
    | leaf hi hl =>
      obtain ⟨⟨kv, vv, dv⟩, hp⟩ := get_node HNS.out hi
      have hlt := (List.getElem?_eq_some_iff.1 hp).1
      have hib : (j : Int) < (ns.length : Int) := by omega
      obtain ⟨n0, n1, n2, n3, nf⟩ := hs2.node_cells hp
      dsimp only at n0 n1 n2 n3
      rw [hl] at n0
      have HKF := Lib.hid (HK1.out.trans hk (fun _ h => h.elim))
      clear hi hl hp hs2 hk
      go_wp2_with (fail)
      go_ret
      exact ⟨rfl, HKF.out⟩
    | inner hi hl hkb hc h =>
      rename_i nn kid m
      obtain ⟨⟨kv, vv, dv⟩, hp⟩ := get_node HNS.out hi
      have hlt := (List.getElem?_eq_some_iff.1 hp).1
      have hib : (i : Int) < (ns.length : Int) := by omega
      obtain ⟨n0, n1, n2, n3, nf⟩ := hs2.node_cells hp
      dsimp only at n0 n1 n2 n3
      rw [hl] at n0
      obtain ⟨x0, x1, x2, xf⟩ := cells3 ((hk.block _ (lt_of_heap HB1.out) (fun h => h)).trans HB1.out)
      obtain ⟨C, hC⟩ : ∃ C, belowF m.keys k = C := ⟨_, rfl⟩
      rw [hC] at hc
      have hcl := (List.getElem?_eq_some_iff.1 hc).1
      obtain ⟨dg, dc, hdv, hdc1, hdc2⟩ := some_shape (Sat.own (hs2.focus hp) 2 rfl) (by show 0 < m.kids.length; omega)
      dsimp only at hdv
      subst hdv
      have HBL := Lib.hid (below_ok (B := B) (D := D) k hi (by omega) ⟨_, _, _, HNS.out, hs2.drew⟩)
      rw [hC] at HBL
      have hcb : (C : Int) < (m.kids.length : Int) := by omega
      have HH := Lib.hid h
      have HSF := Lib.hid hs2
      have HPP := Lib.hid hp
      have HCC := Lib.hid hc
      have HKK := Lib.hid hk
      have HLH := Lib.hid (show T.lh k i = nn + 1 from TM.lh_eq (.inner hi hl hkb (by rw [hC]; exact hc) h))
      clear hi hl hp hs2 hk h hkb hC hc
      go_upto_region 5 with (fail)
      refine wp_region_canon [(0, false, 999), (1, false, 999), (2, false, 999), (3, false, 999), (4, false, 999), (5, false, 999), (6, false, 999), (7, false, 999), (8, false, 11), (9, false, 11), (10, false, 11), (11, true, 0), (12, false, 999), (13, false, 999), (14, false, 999)] (by kernel_rfl) (by kernel_rfl) ?_
      iterate 11 (refine wpCan_read rfl rfl (fun K hK => ?_); go_simp; refine hK _ ?_; clear hK K)
      refine wpCan_eff rfl ?_
      refine wpList_do rfl (fun K hK => ?_)
      go_simp
      refine HBL.out.mono ?_
      rintro e3 w3 ⟨rfl, hk3⟩
      have hs4 := (HSF.out.drew).kept hk3
      clear t0 t1 t2 t3 t4 tf n0 n1 n2 n3 nf x0 x1 x2 xf
      obtain ⟨t0, t1, t2, t3, t4, tf⟩ := hs4.tcells
      obtain ⟨n0, n1, n2, n3, nf⟩ := hs4.node_cells HPP.out
      dsimp only at n0 n1 n2 n3
      have hcell := ids_cell (hs4.kids_rd HPP.out) HCC.out
      have HK4 := Lib.hid ((HKK.out.trans ((Kept.refl (fun _ => False) _).drew) (fun _ h => h.elim)).trans hk3 (fun _ h => h.elim))
      obtain ⟨x0, x1, x2, xf⟩ := cells3 ((HK4.out.block _ (lt_of_heap HB1.out) (fun h => h)).trans HB1.out)
      clear hk3 hs4
      refine hK _ _ ?_
      clear hK K
      refine wpList_nil ?_
      refine And.intro ?_ ?_
      · go_simp
      iterate 3 (refine wpCan_read rfl rfl (fun K hK => ?_); go_simp; refine hK _ ?_; clear hK K)
      refine wpCan_nil ?_
      go_wp2_with fail
      go_roundw
      case rel => exact ⟨kid, nn, rfl, HH.out, HK4.out⟩
      case measure =>
        have e1 := HLH.out
        have e2 := TM.lh_eq HH.out
        simp only [intOf, Int.toNat_natCast, List.getD_eq_getElem?_getD]
        simp
        omega
end Go.Proofs.Ytjijemeabfiipaa
