/- The tree: contract of Get. -/
import Derived.Test.YtjijemeabfiipaaTree21
namespace Go.Proofs.Ytjijemeabfiipaa
open Go.ChangeShapes Go.WideShapes Go.ChangeAt Go.RowKit
set_option maxRecDepth 100000
set_option linter.unusedSimpArgs false

theorem TM.Leads.end_ {T : TM} {k : Val} {n i j : Nat} (h : T.Leads k n i j) : ∃ m, T.nodes[j]? = some m ∧ m.leaf = true := by
  induction h with
  | leaf hi hl => exact ⟨_, hi, hl⟩
  | inner _ _ _ _ _ ih => exact ih

/-- no first node, or no tree -/
def NilT (w : World) (p : Value) : Prop := p = .pointer none ∨ ∃ t r, p = .pointer (some ⟨t, 0, none⟩) ∧ w.cell? ⟨t, 2, none⟩ = some (.int .i64 r) ∧ r < 0
theorem NilT.kept {w w' : World} {p : Value} (h : NilT w p) (k : Kept (fun _ => False) w w') : NilT w' p := h.imp (fun h => h) (fun ⟨t, r, h1, h2, h3⟩ => ⟨t, r, h1, k.cell' h2 (fun h => h), h3⟩)
/-- where there is no leaf: no first node, or no tree -/
theorem leaf_none {w : World} {k : Val} {p : Value} (hp : NilT w p) :
    Calls Try.prog 39 #[p, k.v] w fun e w' => e = .returned (.pointer none) ∧ Kept (fun _ => False) w w' := by
  have hk1 : Kept (fun _ => False) w (w.alloc (.cells #[.bool k.t, .int .i64 k.n, .string k.s] tV)) := (Kept.refl _ _).alloc _
  have HK1 := Lib.hid hk1
  dsimp only [Val.v]
  rcases hp with rfl | ⟨t, r, rfl, hc, hr⟩
  · clear hk1
    go_enter Try.func39, Try.ntmps39
    go_wp2_with (fail)
    go_ret
    exact ⟨rfl, HK1.out⟩
  · have hc2 := hk1.cell' hc (fun h => h)
    clear hk1 hc
    go_enter Try.func39, Try.ntmps39
    go_wp2_with (fail)
    go_ret
    exact ⟨rfl, HK1.out⟩

set_option maxHeartbeats 1000000 in
theorem Get_none {w : World} {k : Val} {p : Value} (hp : NilT w p) :
    Calls Try.prog 24 #[p, k.v] w fun e w' => e = .returned (.tuple #[.int .i64 0, .bool false]) ∧ Kept (fun _ => False) w w' := by
  have hk1 : Kept (fun _ => False) w (w.alloc (.cells #[.bool k.t, .int .i64 k.n, .string k.s] tV)) := (Kept.refl _ _).alloc _
  have hb1 : (w.alloc (.cells #[.bool k.t, .int .i64 k.n, .string k.s] tV)).heap[w.heap.size]? = some (.cells #[.bool k.t, .int .i64 k.n, .string k.s] tV (0, 0)) := heap_alloc_self w _
  have HP := Lib.hid (hp.kept hk1)
  have HK1 := Lib.hid hk1
  have HB1 := Lib.hid hb1
  clear hk1 hb1 hp
  dsimp only [Val.v]
  go_enter Try.func24, Try.ntmps24
  go_upto_region 2 with (fail)
  obtain ⟨W, hW⟩ : ∃ W, W = w.alloc (.cells #[.bool k.t, .int .i64 k.n, .string k.s] tV) := ⟨_, rfl⟩
  rw [← hW] at HK1 HB1 HP ⊢
  generalize w.heap.size = bk at HB1 ⊢
  obtain ⟨x0, x1, x2, xf⟩ := cells3 HB1.out
  clear hW
  go_wp2_with ((go_at_call 39; refine (leaf_none HP.out).mono ?_; rintro e1 w1 ⟨rfl, hk2⟩; have HK2 := Lib.hid (HK1.out.trans hk2 (fun _ h => h.elim)); clear hk2 x0 x1 x2 xf))
  go_ret2
  exact ⟨rfl, HK2.out⟩

/-- what a leaf has at a key -/
def NodeM.get (m : NodeM) (k : Val) : VT := if valRight k && bsIs m.keys k then m.vals.getD (bsAt m.keys k) 0 else 0
def NodeM.has (m : NodeM) (k : Val) : Bool := valRight k && bsIs m.keys k

set_option maxHeartbeats 3000000 in
theorem Get_at {B w : World} {D : PH} {t n r j : Nat} {T : TM} {l : List HP} {k : Val} {m : NodeM} (hroot : T.k.root = (r : Int)) (hld : T.Leads k n r j) (hj : T.nodes[j]? = some m) (hkb : m.keys.length ≤ 1000) (hv : m.vals.length = m.keys.length)
    (h : TreeA B D w t T l) :
    Calls Try.prog 24 #[.pointer (some ⟨t, 0, none⟩), k.v] w fun e w' => e = .returned (.tuple #[.int .i64 (m.get k), .bool (m.has k)]) ∧ Kept (fun _ => False) w w' := by
  obtain ⟨nv, fv, ns, hns, hs⟩ := h
  obtain ⟨⟨kv, vv, dv⟩, hp⟩ := get_node hns hj
  have hlt := (List.getElem?_eq_some_iff.1 hp).1
  obtain ⟨g, c, rfl, _, hcm⟩ := hs.nv_some (by omega)
  unfold maxLen at hcm
  have hk1 : Kept (fun _ => False) w (w.alloc (.cells #[.bool k.t, .int .i64 k.n, .string k.s] tV)) := (Kept.refl _ _).alloc _
  have hb1 : (w.alloc (.cells #[.bool k.t, .int .i64 k.n, .string k.s] tV)).heap[w.heap.size]? = some (.cells #[.bool k.t, .int .i64 k.n, .string k.s] tV (0, 0)) := heap_alloc_self w _
  have hib : (j : Int) < (ns.length : Int) := by omega
  obtain ⟨ko, kc, hkv⟩ := (hs.focus hp).own_shape
  obtain ⟨vo, vc, hvv⟩ := (hs.focus hp).drop.own_shape
  dsimp only at hkv hvv
  rw [hv] at hvv
  subst hkv hvv
  have HS := Lib.hid (hs.kept hk1)
  have HK1 := Lib.hid hk1
  have HB1 := Lib.hid hb1
  have HNS := Lib.hid hns
  have HLD := Lib.hid hld
  have HRT := Lib.hid hroot
  have HP := Lib.hid hp
  have HV := Lib.hid hv
  have hkb2 : m.keys.length ≤ 1000000 := by omega
  clear hs hk1 hb1 hns hld hroot hp hj hv
  dsimp only [Val.v]
  go_enter Try.func24, Try.ntmps24
  go_upto_region 2 with (fail)
  obtain ⟨W, hW⟩ : ∃ W, W = w.alloc (.cells #[.bool k.t, .int .i64 k.n, .string k.s] tV) := ⟨_, rfl⟩
  rw [← hW] at HK1 HB1 HS ⊢
  generalize w.heap.size = bk at HB1 ⊢
  obtain ⟨x0, x1, x2, xf⟩ := cells3 HB1.out
  clear hW
  go_upto_region 3 with ((go_at_call 39; refine (leaf_ok HNS.out HRT.out HLD.out HS.out).mono ?_; rintro e1 w1 ⟨rfl, hk2⟩; have HK2 := Lib.hid hk2; clear hk2 x0 x1 x2 xf))
  have HK3 := Lib.hid (HK1.out.trans HK2.out (fun _ h => h.elim))
  obtain ⟨x0, x1, x2, xf⟩ := cells3 ((HK2.out.block _ (lt_of_heap HB1.out) (fun h => h)).trans HB1.out)
  cases hr : valRight k
  · have HR := Lib.hid hr
    have HG := Lib.hid (show m.get k = 0 ∧ m.has k = false by unfold NodeM.get NodeM.has; rw [hr]; exact ⟨rfl, rfl⟩)
    clear hr
    go_wp2_with ((go_at_call 27; refine (right_ok k _).mono ?_; rw [HR.out]; rintro e2 w2 ⟨rfl, hk3⟩; have HK4 := Lib.hid (HK3.out.trans hk3 (fun _ h => h.elim)); clear hk3))
    go_ret2
    exact ⟨by rw [HG.out.1, HG.out.2]; rfl, HK4.out⟩
  · have HR := Lib.hid hr
    clear hr
    go_upto_region 5 with ((go_at_call 27; refine (right_ok k _).mono ?_; rw [HR.out]; rintro e2 w2 ⟨rfl, hk3⟩; have HK4 := Lib.hid (HK2.out.trans hk3 (fun _ h => h.elim)); clear hk3 x0 x1 x2 xf))
    have hs4 := HS.out.kept HK4.out
    obtain ⟨x0, x1, x2, xf⟩ := cells3 ((HK4.out.block _ (lt_of_heap HB1.out) (fun h => h)).trans HB1.out)
    obtain ⟨n0, n1, n2, n3, nf⟩ := hs4.node_cells HP.out
    dsimp only at n0 n1 n2 n3
    have hrd := hs4.drew.keys_rd HP.out
    dsimp only at hrd
    have HRD := Lib.hid hrd
    have HS4 := Lib.hid hs4
    clear hrd hs4
    refine wp_region_canon [(0, false, 5), (1, false, 5), (2, false, 5), (3, false, 5), (4, false, 5), (5, true, 0), (6, false, 999), (7, false, 999), (8, false, 999), (9, false, 999), (10, false, 999)] (by kernel_rfl) (by kernel_rfl) ?_
    iterate 5 (refine wpCan_read rfl rfl (fun K hK => ?_); go_simp; refine hK _ ?_; clear hK K)
    refine wpCan_eff rfl ?_
    refine wpList_do rfl (fun K hK => ?_)
    go_simp
    refine (search_ok k HRD.out hkb2).mono ?_
    rintro e5 w5 ⟨rfl, hk5⟩
    have hk5' : Kept (fun _ => False) w2 w5 := ((Kept.refl _ _).drew).trans hk5 (fun _ h => h.elim)
    have hs5 := HS4.out.kept hk5'
    have HK6 := Lib.hid ((HK1.out.trans HK4.out (fun _ h => h.elim)).trans hk5' (fun _ h => h.elim))
    clear x0 x1 x2 xf n0 n1 n2 n3 nf HRD hk5 hk5'
    obtain ⟨n0, n1, n2, n3, nf⟩ := hs5.node_cells HP.out
    dsimp only at n0 n1 n2 n3
    have HVR := Lib.hid (hs5.vals_rd HP.out)
    clear hs5
    refine hK _ _ ?_
    clear hK K
    refine wpList_nil ?_
    refine And.intro ?_ ?_
    · go_simp
    iterate 5 (refine wpCan_read rfl rfl (fun K hK => ?_); go_simp; refine hK _ ?_; clear hK K)
    refine wpCan_nil ?_
    cases his : bsIs m.keys k
    · have HG := Lib.hid (show m.get k = 0 ∧ m.has k = false by unfold NodeM.get NodeM.has; rw [his, Bool.and_false]; exact ⟨rfl, rfl⟩)
      clear his
      go_wp2_with (fail)
      go_ret2
      exact ⟨by rw [HG.out.1, HG.out.2]; rfl, HK6.out⟩
    · have hbl := bsIs_lt his
      obtain ⟨v, hvx⟩ : ∃ v, m.vals[bsAt m.keys k]? = some v := ⟨m.vals[bsAt m.keys k]'(by rw [HV.out]; exact hbl), List.getElem?_eq_getElem _⟩
      have hvr := HVR.out
      dsimp only at hvr
      rw [HV.out] at hvr
      obtain ⟨vg, vo2, rfl, hvc⟩ : ∃ vg vo2, vo = some ⟨vg, vo2, none⟩ ∧ w5.cell? ⟨vg, vo2 + bsAt m.keys k, none⟩ = some (.int .i64 v) := by
        obtain ⟨_, _, hvq, _, _, _, hc⟩ := hvr.2.2
        cases hvq
        rcases hc with h0 | ⟨vg, vo2, hg, hc⟩
        · omega
        · have := hc _ _ (flat_get vlen m.vals _ v hvx 0 _ rfl)
          exact ⟨vg, vo2, hg, by simpa using this⟩
      have hab : (bsAt m.keys k : Int) < (m.keys.length : Int) := by omega
      have HG := Lib.hid (show m.get k = v ∧ m.has k = true by unfold NodeM.get NodeM.has; rw [HR.out, his, Bool.and_true, if_pos rfl, List.getD_eq_getElem?_getD, hvx]; exact ⟨rfl, rfl⟩)
      clear his hvx hvr
      go_wp2_with (fail)
      go_ret2
      exact ⟨by rw [HG.out.1, HG.out.2]; rfl, HK6.out⟩
end Go.Proofs.Ytjijemeabfiipaa
