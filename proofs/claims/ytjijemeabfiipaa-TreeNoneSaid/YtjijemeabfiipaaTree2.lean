/- The tree: contracts of give, size, below. -/
import Derived.Test.YtjijemeabfiipaaTree1
namespace Go.Proofs.Ytjijemeabfiipaa
open Go.ChangeShapes Go.WideShapes Go.ChangeAt Go.RowKit
set_option maxRecDepth 100000
set_option linter.unusedSimpArgs false

def TM.give (T : TM) (i : Nat) : TM := { T with nodes := T.nodes.set i (freshM false), free := T.free ++ [i] }
def NodeM.size (m : NodeM) : Nat := if m.leaf then m.keys.length else m.kids.length
def belowF (keys : List Val) (k : Val) : Nat := bsAt keys k + if bsIs keys k then 1 else 0

set_option maxHeartbeats 1000000 in
theorem size_ok {B w : World} {D : PH} {t : Nat} {T : TM} {l : List HP} {i : Nat} {m : NodeM} (hi : T.nodes[i]? = some m) (h : TreeA B D w t T l) :
    Calls Try.prog 30 #[.pointer (some ⟨t, 0, none⟩), .int .i64 i] w fun e w' => e = .returned (.int .i64 m.size) ∧ w = w' := by
  obtain ⟨nv, fv, ns, hns, hs⟩ := h
  obtain ⟨⟨kv, vv, dv⟩, hp⟩ := get_node hns hi
  have hlt := (List.getElem?_eq_some_iff.1 hp).1
  obtain ⟨g, c, rfl, _, hcm⟩ := hs.nv_some (by omega)
  obtain ⟨t0, t1, t2, t3, t4, tf⟩ := hs.tcells
  obtain ⟨n0, n1, n2, n3, nf⟩ := hs.node_cells hp
  obtain ⟨ko, kc, hkv⟩ := (hs.focus hp).own_shape
  obtain ⟨dO, dc, hdv⟩ := (hs.focus hp).drop.drop.own_shape
  dsimp only at hkv hdv n0 n1 n2 n3
  subst hkv hdv
  unfold maxLen at hcm
  have hib : (i : Int) < (ns.length : Int) := by omega
  cases hl : m.leaf
  · have HSZ := Lib.hid (show m.size = m.kids.length by simp [NodeM.size, hl])
    rw [hl] at n0
    clear hs hp hi hns hl
    go_enter Try.func30, Try.ntmps30
    go_wp2_with (fail)
    go_ret
    exact ⟨by rw [HSZ.out]; rfl, rfl⟩
  · have HSZ := Lib.hid (show m.size = m.keys.length by simp [NodeM.size, hl])
    rw [hl] at n0
    clear hs hp hi hns hl
    go_enter Try.func30, Try.ntmps30
    go_wp2_with (fail)
    go_ret
    exact ⟨by rw [HSZ.out]; rfl, rfl⟩

set_option maxHeartbeats 2000000 in
theorem below_ok {B w : World} {D : PH} {t : Nat} {T : TM} {l : List HP} {i : Nat} {m : NodeM} (k : Val) (hi : T.nodes[i]? = some m) (hkb : m.keys.length ≤ 1000000) (h : TreeA B D w t T l) :
    Calls Try.prog 44 #[.pointer (some ⟨t, 0, none⟩), .int .i64 i, k.v] w fun e w' => e = .returned (.int .i64 (belowF m.keys k)) ∧ Kept (fun _ => False) w w' := by
  obtain ⟨nv, fv, ns, hns, hs⟩ := h
  obtain ⟨⟨kv, vv, dv⟩, hp⟩ := get_node hns hi
  have hlt := (List.getElem?_eq_some_iff.1 hp).1
  obtain ⟨g, c, rfl, _, hcm⟩ := hs.nv_some (by omega)
  unfold maxLen at hcm
  have hk0 : Kept (fun _ => False) w (w.alloc (.cells #[.bool k.t, .int .i64 k.n, .string k.s] tV)) := (Kept.refl _ _).alloc _
  have hs1 := hs.kept hk0
  have hb : (w.alloc (.cells #[.bool k.t, .int .i64 k.n, .string k.s] tV)).heap[w.heap.size]? = some (.cells #[.bool k.t, .int .i64 k.n, .string k.s] tV (0, 0)) := heap_alloc_self w _
  have hib : (i : Int) < (ns.length : Int) := by omega
  have HB := Lib.hid hb
  have HK0 := Lib.hid hk0
  have HS1 := Lib.hid hs1
  have HP := Lib.hid hp
  have hbl := (bsF_le (keyAt m.keys k) 0 m.keys.length (Nat.zero_le _)).2
  have hbl2 : bsAt m.keys k ≤ 1000000 := Nat.le_trans hbl hkb
  clear hs hk0 hs1 hb hp hi hns hbl
  dsimp only [Val.v]
  go_enter Try.func44, Try.ntmps44
  go_upto_region 1 with (fail)
  obtain ⟨W, hW⟩ : ∃ W, W = w.alloc (.cells #[.bool k.t, .int .i64 k.n, .string k.s] tV) := ⟨_, rfl⟩
  rw [← hW] at HK0 HB HS1 ⊢
  generalize w.heap.size = bk at HB ⊢
  clear hW
  obtain ⟨x0, x1, x2, xf⟩ := cells3 HB.out
  obtain ⟨t0, t1, t2, t3, t4, tf⟩ := HS1.out.tcells
  obtain ⟨n0, n1, n2, n3, nf⟩ := HS1.out.node_cells HP.out
  have hrd := HS1.out.drew.keys_rd HP.out
  obtain ⟨ko, kc, hkv⟩ := (HS1.out.focus HP.out).own_shape
  dsimp only at hkv n0 n1 n2 n3 hrd
  subst hkv
  have HRD := Lib.hid hrd
  clear hrd
  refine wp_region_canon [(0, false, 9), (1, false, 9), (2, false, 9), (3, false, 9), (4, false, 9), (5, false, 9), (6, false, 9), (7, false, 9), (8, false, 9), (9, true, 0), (10, false, 999), (11, false, 999), (12, false, 999), (13, false, 999), (14, false, 999)] (by kernel_rfl) (by kernel_rfl) ?_
  iterate 9 (refine wpCan_read rfl rfl (fun K hK => ?_); go_simp; refine hK _ ?_; clear hK K)
  refine wpCan_eff rfl ?_
  refine wpList_do rfl (fun K hK => ?_)
  go_simp
  refine (search_ok k HRD.out hkb).mono ?_
  rintro e1 w1 ⟨rfl, hk1⟩
  have HK1 := Lib.hid (HK0.out.trans (((Kept.refl (fun _ => False) W).drew).trans hk1 (fun _ h => h.elim)) (fun _ h => h.elim))
  clear hk1 x0 x1 x2 xf t0 t1 t2 t3 t4 tf n0 n1 n2 n3 nf
  refine hK _ _ ?_
  clear hK K
  refine wpList_nil ?_
  refine And.intro ?_ ?_
  · go_simp
  iterate 5 (refine wpCan_read rfl rfl (fun K hK => ?_); go_simp; refine hK _ ?_; clear hK K)
  refine wpCan_nil ?_
  cases hbs : bsIs m.keys k
  · have HBF := Lib.hid (show belowF m.keys k = bsAt m.keys k by simp [belowF, hbs])
    clear hbs
    go_wp2_with (fail)
    go_ret
    exact ⟨by rw [HBF.out]; rfl, HK1.out⟩
  · have HBF := Lib.hid (show belowF m.keys k = bsAt m.keys k + 1 by simp [belowF, hbs])
    have hw : IntKind.i64.wrap ((bsAt m.keys k : Int) + 1) = (bsAt m.keys k : Int) + 1 := IntWalk.i64_in _ (by omega)
    clear hbs
    go_wp2_with (fail)
    go_ret
    exact ⟨by rw [HBF.out]; rfl, HK1.out⟩
end Go.Proofs.Ytjijemeabfiipaa
