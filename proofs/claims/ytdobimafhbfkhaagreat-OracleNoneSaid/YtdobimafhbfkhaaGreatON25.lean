/- Joined texts: The tree: contract of Get. The tree: a tree that is none; Delete, by what remove does. The tree: Delete, where a key is taken away (printed by gendel.py). -/
import Derived.Test.YtdobimafhbfkhaaGreatON24
set_option maxHeartbeats 64000000
namespace Go.Proofs.YtdobimafhbfkhaaGreat
open Go.ChangeShapes Go.WideShapes Go.ChangeAt Go.RowKit
set_option maxRecDepth 100000
set_option linter.unusedSimpArgs false
theorem TM.Leads.end_ {T : TM} {k : Val} {n i j : Nat} (h : T.Leads k n i j) : ∃ m, T.nodes[j]? = some m ∧ m.leaf = true := by
 induction h with
 | leaf hi hl => exact ⟨_, hi, hl⟩
 | inner _ _ _ _ _ ih => exact ih
def NilT (w : World) (p : Value) : Prop := p = .pointer none ∨ ∃ t r, p = .pointer (some ⟨t, 0, none⟩) ∧ w.cell? ⟨t, 2, none⟩ = some (.int .i64 r) ∧ r < 0
theorem NilT.kept {w w' : World} {p : Value} (h : NilT w p) (k : Kept (fun _ => False) w w') : NilT w' p := h.imp (fun h => h) (fun ⟨t, r, h1, h2, h3⟩ => ⟨t, r, h1, k.cell' h2 (fun h => h), h3⟩)
theorem qm {w : World} {k : Val} {p : Value} (hp : NilT w p) :
  Calls Tryz.prog 111 #[p, k.v] w fun e w' => e = .returned (.pointer none) ∧ Kept (fun _ => False) w w' := by
 have hk1 : Kept (fun _ => False) w (w.alloc (.cells #[.bool k.t, .int .i64 k.n, .string k.s] tV)) := (Kept.refl _ _).alloc _
 have sQ := Bb hk1
 dsimp only [Val.v]
 rcases hp with rfl | ⟨t, r, rfl, hc, hr⟩
 ·clear hk1
  go_enter Tryz.func111, Tryz.ntmps111
  go_wp2_with (fail)
  go_ret
  exact ⟨rfl, sQ.out⟩
 ·have hc2 := hk1.cell' hc (fun h => h)
  clear hk1 hc
  go_enter Tryz.func111, Tryz.ntmps111
  go_wp2_with (fail)
  go_ret
  exact ⟨rfl, sQ.out⟩
theorem su {w : World} {k : Val} {p : Value} (hp : NilT w p) :
  Calls Tryz.prog 93 #[p, k.v] w fun e w' => e = .returned (.tuple #[RowT.none.v, .bool false]) ∧ Kept (fun _ => False) w w' := by
 have hk1 : Kept (fun _ => False) w (w.alloc (.cells #[.bool k.t, .int .i64 k.n, .string k.s] tV)) := (Kept.refl _ _).alloc _
 have hb1 : (w.alloc (.cells #[.bool k.t, .int .i64 k.n, .string k.s] tV)).heap[w.heap.size]? = some (.cells #[.bool k.t, .int .i64 k.n, .string k.s] tV (0, 0)) := aw w _
 have HP := Bb (hp.kept hk1)
 have sQ := Bb hk1
 have sM := Bb hb1
 clear hk1 hb1 hp
 dsimp only [Val.v]
 go_enter Tryz.func93, Tryz.ntmps93
 go_upto_region 2 with (fail)
 obtain ⟨W, hW⟩ : ∃ W, W = w.alloc (.cells #[.bool k.t, .int .i64 k.n, .string k.s] tV) := ⟨_, rfl⟩
 rw [← hW] at sQ sM HP ⊢
 generalize w.heap.size = bk at sM ⊢
 obtain ⟨x0, x1, x2, xf⟩ := aS sM.out
 clear hW
 go_wp2_with ((go_at_call 111; refine (qm HP.out).mono ?_; rintro e1 w1 ⟨rfl, hk2⟩; have sY := Bb (sQ.out.trans hk2 (fun _ h => h.elim)); clear hk2 x0 x1 x2 xf))
 go_ret2
 exact ⟨rfl, sY.out⟩
def NodeM.get (m : NodeM) (k : Val) : VT := if ak k && dA m.keys k then m.vals.getD (bg m.keys k) RowT.none else RowT.none
def NodeM.has (m : NodeM) (k : Val) : Bool := ak k && dA m.keys k
theorem Get_at {B w : World} {D : PH} {t n r j : Nat} {T : TM} {l : List HP} {k : Val} {m : NodeM} (hroot : T.k.root = (r : Int)) (hld : T.Leads k n r j) (hj : T.nodes[j]? = some m) (hkb : m.keys.length ≤ 1000) (hv : m.vals.length = m.keys.length)
  (h : TreeA B D w t T l) :
  Calls Tryz.prog 93 #[.pointer (some ⟨t, 0, none⟩), k.v] w fun e w' => e = .returned (.tuple #[(m.get k).v, .bool (m.has k)]) ∧ Kept (fun _ => False) w w' := by
 obtain ⟨nv, fv, ns, hns, hs⟩ := h
 obtain ⟨⟨kv, vv, dv⟩, hp⟩ := aE hns hj
 have hlt := (List.getElem?_eq_some_iff.1 hp).1
 obtain ⟨g, c, rfl, _, hcm⟩ := hs.nv_some (by omega)
 unfold maxLen at hcm
 have hk1 : Kept (fun _ => False) w (w.alloc (.cells #[.bool k.t, .int .i64 k.n, .string k.s] tV)) := (Kept.refl _ _).alloc _
 have hb1 : (w.alloc (.cells #[.bool k.t, .int .i64 k.n, .string k.s] tV)).heap[w.heap.size]? = some (.cells #[.bool k.t, .int .i64 k.n, .string k.s] tV (0, 0)) := aw w _
 have hib : (j : Int) < (ns.length : Int) := by omega
 obtain ⟨ko, kc, hkv⟩ := (hs.focus hp).own_shape
 obtain ⟨vo, vc, hvv⟩ := (hs.focus hp).drop.own_shape
 dsimp only at hkv hvv
 rw [hv] at hvv
 subst hkv hvv
 have HS := Bb (hs.kept hk1)
 have sQ := Bb hk1
 have sM := Bb hb1
 have tp := Bb hns
 have vN := Bb hld
 have tD := Bb hroot
 have HP := Bb hp
 have HV := Bb hv
 have hkb2 : m.keys.length ≤ 1000000 := by omega
 clear hs hk1 hb1 hns hld hroot hp hj hv
 dsimp only [Val.v]
 go_enter Tryz.func93, Tryz.ntmps93
 go_upto_region 2 with (fail)
 obtain ⟨W, hW⟩ : ∃ W, W = w.alloc (.cells #[.bool k.t, .int .i64 k.n, .string k.s] tV) := ⟨_, rfl⟩
 rw [← hW] at sQ sM HS ⊢
 generalize w.heap.size = bk at sM ⊢
 obtain ⟨x0, x1, x2, xf⟩ := aS sM.out
 clear hW
 go_upto_region 3 with ((go_at_call 111; refine (leaf_ok tp.out tD.out vN.out HS.out).mono ?_; rintro e1 w1 ⟨rfl, hk2⟩; have sY := Bb hk2; clear hk2 x0 x1 x2 xf))
 have wj := Bb (sQ.out.trans sY.out (fun _ h => h.elim))
 obtain ⟨x0, x1, x2, xf⟩ := aS ((sY.out.block _ (av sM.out) (fun h => h)).trans sM.out)
 cases hr : ak k
 ·have HR := Bb hr
  have HG := Bb (show m.get k = RowT.none ∧ m.has k = false by unfold NodeM.get NodeM.has; rw [hr]; exact ⟨rfl, rfl⟩)
  clear hr
  go_wp2_with ((go_at_call 32; refine (aG k _).mono ?_; rw [HR.out]; rintro e2 w2 ⟨rfl, hk3⟩; have tL := Bb (wj.out.trans hk3 (fun _ h => h.elim)); clear hk3))
  go_ret2
  exact ⟨by rw [HG.out.1, HG.out.2]; rfl, tL.out⟩
 ·have HR := Bb hr
  clear hr
  go_upto_region 5 with ((go_at_call 32; refine (aG k _).mono ?_; rw [HR.out]; rintro e2 w2 ⟨rfl, hk3⟩; have tL := Bb (sY.out.trans hk3 (fun _ h => h.elim)); clear hk3 x0 x1 x2 xf))
  have hs4 := HS.out.kept tL.out
  obtain ⟨x0, x1, x2, xf⟩ := aS ((tL.out.block _ (av sM.out) (fun h => h)).trans sM.out)
  obtain ⟨n0, n1, n2, n3, nf⟩ := hs4.node_cells HP.out
  dsimp only at n0 n1 n2 n3
  have hrd := hs4.drew.keys_rd HP.out
  dsimp only at hrd
  have sU := Bb hrd
  have sV := Bb hs4
  clear hrd hs4
  refine af [(0, false, 5), (1, false, 5), (2, false, 5), (3, false, 5), (4, false, 5), (5, true, 0), (6, false, 999), (7, false, 999), (8, false, 999), (9, false, 999), (10, false, 999)] (by kernel_rfl) (by kernel_rfl) ?_
  iterate 5 (refine ae rfl rfl (fun K hK => ?_); go_simp; refine hK _ ?_; clear hK K)
  refine ag rfl ?_
  refine am rfl (fun K hK => ?_)
  go_simp
  refine (eq k sU.out hkb2).mono ?_
  rintro e5 w5 ⟨rfl, hk5⟩
  have hk5' : Kept (fun _ => False) w2 w5 := ((Kept.refl _ _).drew).trans hk5 (fun _ h => h.elim)
  have hs5 := sV.out.kept hk5'
  have Ae := Bb ((sQ.out.trans tL.out (fun _ h => h.elim)).trans hk5' (fun _ h => h.elim))
  clear x0 x1 x2 xf n0 n1 n2 n3 nf sU hk5 hk5'
  obtain ⟨n0, n1, n2, n3, nf⟩ := hs5.node_cells HP.out
  dsimp only at n0 n1 n2 n3
  have AI := Bb (hs5.vals_rd HP.out)
  clear hs5
  refine hK _ _ ?_
  clear hK K
  refine wpList_nil ?_
  refine And.intro ?_ ?_
  ·go_simp
  iterate 5 (refine ae rfl rfl (fun K hK => ?_); go_simp; refine hK _ ?_; clear hK K)
  refine ah ?_
  cases his : dA m.keys k
  ·have HG := Bb (show m.get k = RowT.none ∧ m.has k = false by unfold NodeM.get NodeM.has; rw [his, Bool.and_false]; exact ⟨rfl, rfl⟩)
   clear his
   go_wp2_with (fail)
   go_ret2
   exact ⟨by rw [HG.out.1, HG.out.2]; rfl, Ae.out⟩
  ·have hbl := jB his
   obtain ⟨v, hvx⟩ : ∃ v, m.vals[bg m.keys k]? = some v := ⟨m.vals[bg m.keys k]'(by rw [HV.out]; exact hbl), List.getElem?_eq_getElem _⟩
   have hvr := AI.out
   dsimp only at hvr
   rw [HV.out] at hvr
   obtain ⟨vg, vo2, rfl, hvc⟩ : ∃ vg vo2, vo = some ⟨vg, vo2, none⟩ ∧ w5.cell? ⟨vg, vo2 + bg m.keys k, none⟩ = some v.v := by
    obtain ⟨_, _, hvq, _, _, _, hc⟩ := hvr.2.2
    cases hvq
    rcases hc with h0 | ⟨vg, vo2, hg, hc⟩
    ·omega
    ·have := hc _ _ (bM jt m.vals _ v hvx 0 _ rfl)
     exact ⟨vg, vo2, hg, by simpa using this⟩
   have hab : (bg m.keys k : Int) < (m.keys.length : Int) := by omega
   have HG := Bb (show m.get k = v ∧ m.has k = true by unfold NodeM.get NodeM.has; rw [HR.out, his, Bool.and_true, if_pos rfl, List.getD_eq_getElem?_getD, hvx]; exact ⟨rfl, rfl⟩)
   clear his hvx hvr
   go_wp2_with (fail)
   go_ret2
   exact ⟨by rw [HG.out.1, HG.out.2]; rfl, Ae.out⟩
attribute [local go_sem] Oper.semAt_some
theorem mT {w : World} {k : Val} {p : Value} (hp : NilT w p) :
  Calls Tryz.prog 91 #[p, k.v] w fun e w' => e = .returned (.bool false) ∧ Kept (fun _ => False) w w' := by
 have hk1 : Kept (fun _ => False) w (w.alloc (.cells #[.bool k.t, .int .i64 k.n, .string k.s] tV)) := (Kept.refl _ _).alloc _
 have hp1 := hp.kept hk1
 have sQ := Bb hk1
 clear hk1 hp
 dsimp only [Val.v]
 rcases hp1 with rfl | ⟨t, r, rfl, hc, hr⟩
 all_goals
  go_enter Tryz.func91, Tryz.ntmps91
  go_upto_region 1 with (fail)
  refine af [(0, false, 11), (1, false, 11), (2, false, 11), (3, false, 11), (4, false, 11), (5, false, 11), (6, false, 11), (7, false, 11), (8, false, 11), (9, false, 11), (10, false, 11), (11, true, 0), (12, false, 21), (13, false, 21), (14, false, 21), (15, false, 21), (16, false, 21), (17, false, 21), (18, false, 21), (19, false, 21), (20, false, 21), (21, true, 0), (22, false, 999), (23, false, 999)] (by kernel_rfl) (by kernel_rfl) ?_
  iterate 3 (refine ae rfl rfl (fun K hK => ?_); go_simp; refine hK _ ?_; clear hK K)
  iterate 5 (first | (refine ar rfl rfl ?_; simp only [Act.put, Bc, Bd, Be, Bf, Bg, Bh]) | (refine al rfl rfl (fun K hK => ?_); go_simp; refine hK _ ?_; clear hK K))
  iterate 2 (refine ae rfl rfl (fun K hK => ?_); go_simp; refine hK _ ?_; clear hK K)
  first | (refine ar rfl rfl ?_; simp only [Act.put, Bc, Bd, Be, Bf, Bg, Bh]) | (refine al rfl rfl (fun K hK => ?_); go_simp; refine hK _ ?_; clear hK K)
  refine ag rfl ?_
  refine bQ rfl ?_
  simp only [Act.put, Bc, Bd, Be]
  refine wpList_nil ?_
  refine And.intro ?_ ?_
  ·go_simp
  first | (refine ar rfl rfl ?_; simp only [Act.put, Bc, Bd, Be, Bf, Bg, Bh]) | (refine al rfl rfl (fun K hK => ?_); go_simp; refine hK _ ?_; clear hK K)
  iterate 2 (refine ae rfl rfl (fun K hK => ?_); go_simp; refine hK _ ?_; clear hK K)
  iterate 6 (first | (refine ar rfl rfl ?_; simp only [Act.put, Bc, Bd, Be, Bf, Bg, Bh]) | (refine al rfl rfl (fun K hK => ?_); go_simp; refine hK _ ?_; clear hK K))
  refine ag rfl ?_
  refine bQ rfl ?_
  simp only [Act.put, Bc, Bd, Be]
  refine wpList_nil ?_
  refine And.intro ?_ ?_
  ·go_simp
  first | (refine ar rfl rfl ?_; simp only [Act.put, Bc, Bd, Be, Bf, Bg, Bh]) | (refine al rfl rfl (fun K hK => ?_); go_simp; refine hK _ ?_; clear hK K)
  refine ae rfl rfl (fun K hK => ?_); go_simp; refine hK _ ?_; clear hK K
  refine ah ?_
  go_wp2_with fail
  go_ret
  exact ⟨rfl, sQ.out.drew⟩
def TM.less (T : TM) : TM := { T with k := { T.k with many := T.k.many - 1 } }
def TM.drop1 (T : TM) (root : Int) (top : Nat) : TM := { (T.give top) with k := { root := root, many := T.k.many - 1, depth := T.k.depth - 1 } }
theorem lR {B w : World} {D : PH} {t r : Nat} {T : TM} {l : List HP} {k : Val} (hr : ak k = false ∨ (ak k = true ∧ ∀ (w : World) (l : List HP), TreeA B D w t T l → Calls Tryz.prog 105 #[.pointer (some ⟨t, 0, none⟩), .int .i64 r, k.v] w fun e w' => e = .returned (.bool false) ∧ TreeA B D w' t T l))
  (hroot : T.k.root = (r : Int)) (h : TreeA B D w t T l) :
  Calls Tryz.prog 91 #[.pointer (some ⟨t, 0, none⟩), k.v] w fun e w' => e = .returned (.bool false) ∧ TreeA B D w' t T l := by
 obtain ⟨nv, fv, ns, hns, hs⟩ := h
 have sK := Bb (hs.alloc #[.bool k.t, .int .i64 k.n, .string k.s] tV)
 have tp := Bb hns
 have tD := Bb hroot
 have hr0 : ¬ ((r : Int) < 0) := by omega
 clear hs hns hroot
 dsimp only [Val.v]
 rcases hr with hr | ⟨hr, hrem⟩
 all_goals
  have HR := Bb hr
  clear hr
  go_enter Tryz.func91, Tryz.ntmps91
  go_upto_region 1 with (fail)
  obtain ⟨W, hW, hs2⟩ := sK.out.hide
  rw [← hW]
  clear sK hW
  generalize w.heap.size = bk at hs2 ⊢
  obtain ⟨t0, t1, t2, t3, t4, tf⟩ := hs2.tcells
  obtain ⟨x0, x1, x2, xf⟩ := aS (Sat.blk hs2 4 rfl)
  rw [tD.out] at t2
  have sR := Bb hs2
  clear hs2
 ·refine af [(0, false, 11), (1, false, 11), (2, false, 11), (3, false, 11), (4, false, 11), (5, false, 11), (6, false, 11), (7, false, 11), (8, false, 11), (9, false, 11), (10, false, 11), (11, true, 0), (12, false, 21), (13, false, 21), (14, false, 21), (15, false, 21), (16, false, 21), (17, false, 21), (18, false, 21), (19, false, 21), (20, false, 21), (21, true, 0), (22, false, 999), (23, false, 999)] (by kernel_rfl) (by kernel_rfl) ?_
  iterate 3 (refine ae rfl rfl (fun K hK => ?_); go_simp; refine hK _ ?_; clear hK K)
  iterate 5 (first | (refine ar rfl rfl ?_; simp only [Act.put, Bc, Bd, Be, Bf, Bg, Bh]) | (refine al rfl rfl (fun K hK => ?_); go_simp; refine hK _ ?_; clear hK K))
  iterate 2 (refine ae rfl rfl (fun K hK => ?_); go_simp; refine hK _ ?_; clear hK K)
  first | (refine ar rfl rfl ?_; simp only [Act.put, Bc, Bd, Be, Bf, Bg, Bh]) | (refine al rfl rfl (fun K hK => ?_); go_simp; refine hK _ ?_; clear hK K)
  refine ag rfl ?_
  refine am rfl (fun K hK => ?_)
  go_simp
  refine (aG k _).mono ?_
  rw [HR.out]
  rintro e1 w1 ⟨rfl, hk1⟩
  have sO := Bb ((sR.out.drew).kept hk1)
  clear hk1 sR x0 x1 x2 xf t0 t1 t2 t3 t4 tf
  obtain ⟨t0, t1, t2, t3, t4, tf⟩ := sO.out.tcells
  obtain ⟨x0, x1, x2, xf⟩ := aS (Sat.blk sO.out 4 rfl)
  rw [tD.out] at t2
  refine hK _ _ ?_
  clear hK K
  refine wpList_nil ?_
  refine And.intro ?_ ?_
  ·go_simp
  first | (refine ar rfl rfl ?_; simp only [Act.put, Bc, Bd, Be, Bf, Bg, Bh]) | (refine al rfl rfl (fun K hK => ?_); go_simp; refine hK _ ?_; clear hK K)
  iterate 2 (refine ae rfl rfl (fun K hK => ?_); go_simp; refine hK _ ?_; clear hK K)
  iterate 6 (first | (refine ar rfl rfl ?_; simp only [Act.put, Bc, Bd, Be, Bf, Bg, Bh]) | (refine al rfl rfl (fun K hK => ?_); go_simp; refine hK _ ?_; clear hK K))
  refine ag rfl ?_
  refine bQ rfl ?_
  simp only [Act.put, Bc, Bd, Be]
  refine wpList_nil ?_
  refine And.intro ?_ ?_
  ·go_simp
  first | (refine ar rfl rfl ?_; simp only [Act.put, Bc, Bd, Be, Bf, Bg, Bh]) | (refine al rfl rfl (fun K hK => ?_); go_simp; refine hK _ ?_; clear hK K)
  refine ae rfl rfl (fun K hK => ?_); go_simp; refine hK _ ?_; clear hK K
  refine ah ?_
  go_wp2_with fail
  go_ret
  exact ⟨rfl, _, _, _, tp.out, sO.out.drop⟩
 ·have vk := Bb hrem
  clear hrem
  refine af [(0, false, 11), (1, false, 11), (2, false, 11), (3, false, 11), (4, false, 11), (5, false, 11), (6, false, 11), (7, false, 11), (8, false, 11), (9, false, 11), (10, false, 11), (11, true, 0), (12, false, 21), (13, false, 21), (14, false, 21), (15, false, 21), (16, false, 21), (17, false, 21), (18, false, 21), (19, false, 21), (20, false, 21), (21, true, 0), (22, false, 999), (23, false, 999)] (by kernel_rfl) (by kernel_rfl) ?_
  iterate 3 (refine ae rfl rfl (fun K hK => ?_); go_simp; refine hK _ ?_; clear hK K)
  iterate 5 (first | (refine ar rfl rfl ?_; simp only [Act.put, Bc, Bd, Be, Bf, Bg, Bh]) | (refine al rfl rfl (fun K hK => ?_); go_simp; refine hK _ ?_; clear hK K))
  iterate 2 (refine ae rfl rfl (fun K hK => ?_); go_simp; refine hK _ ?_; clear hK K)
  first | (refine ar rfl rfl ?_; simp only [Act.put, Bc, Bd, Be, Bf, Bg, Bh]) | (refine al rfl rfl (fun K hK => ?_); go_simp; refine hK _ ?_; clear hK K)
  refine ag rfl ?_
  refine am rfl (fun K hK => ?_)
  go_simp
  refine (aG k _).mono ?_
  rw [HR.out]
  rintro e1 w1 ⟨rfl, hk1⟩
  have sO := Bb ((sR.out.drew).kept hk1)
  clear hk1 sR x0 x1 x2 xf t0 t1 t2 t3 t4 tf
  obtain ⟨t0, t1, t2, t3, t4, tf⟩ := sO.out.tcells
  obtain ⟨x0, x1, x2, xf⟩ := aS (Sat.blk sO.out 4 rfl)
  rw [tD.out] at t2
  have xq := Bb (vk.out w1 _ ⟨_, _, _, tp.out, sO.out⟩)
  refine hK _ _ ?_
  clear hK K
  refine wpList_nil ?_
  refine And.intro ?_ ?_
  ·go_simp
  first | (refine ar rfl rfl ?_; simp only [Act.put, Bc, Bd, Be, Bf, Bg, Bh]) | (refine al rfl rfl (fun K hK => ?_); go_simp; refine hK _ ?_; clear hK K)
  iterate 2 (refine ae rfl rfl (fun K hK => ?_); go_simp; refine hK _ ?_; clear hK K)
  iterate 6 (first | (refine ar rfl rfl ?_; simp only [Act.put, Bc, Bd, Be, Bf, Bg, Bh]) | (refine al rfl rfl (fun K hK => ?_); go_simp; refine hK _ ?_; clear hK K))
  refine ag rfl ?_
  refine am rfl (fun K hK => ?_)
  go_simp
  refine xq.out.mono ?_
  rintro e2 w2 ⟨rfl, nv2, fv2, ns2, hns2, hs2⟩
  have sV := Bb hs2
  have uq := Bb hns2
  clear hns2 x0 x1 x2 xf t0 t1 t2 t3 t4 tf
  obtain ⟨t0, t1, t2, t3, t4, tf⟩ := hs2.tcells
  obtain ⟨x0, x1, x2, xf⟩ := aS (Sat.blk hs2 4 rfl)
  rw [tD.out] at t2
  clear hs2
  refine hK _ _ ?_
  clear hK K
  refine wpList_nil ?_
  refine And.intro ?_ ?_
  ·go_simp
  first | (refine ar rfl rfl ?_; simp only [Act.put, Bc, Bd, Be, Bf, Bg, Bh]) | (refine al rfl rfl (fun K hK => ?_); go_simp; refine hK _ ?_; clear hK K)
  refine ae rfl rfl (fun K hK => ?_); go_simp; refine hK _ ?_; clear hK K
  refine ah ?_
  go_wp2_with fail
  go_ret
  exact ⟨rfl, _, _, _, uq.out, sV.out.drop⟩
theorem nQ {B w : World} {D : PH} {t r : Nat} {T T1 : TM} {l : List HP} {k : Val} {m : NodeM} (hr : ak k = true) (hrem : ∀ (w : World) (l : List HP), TreeA B D w t T l → Calls Tryz.prog 105 #[.pointer (some ⟨t, 0, none⟩), .int .i64 r, k.v] w fun e w' => e = .returned (.bool true) ∧ TreeA B D w' t T1 l)
  (hroot : T.k.root = (r : Int)) (hk1 : T1.k = T.k) (hfit : T.k.fit) (hm : T1.nodes[r]? = some m) (hbig : T1.nodes.length ≤ 1000000) (hfb : T1.free.length ≤ 1000000) (hl : m.leaf = true) (hz : T.k.many = 1) (h : TreeA B D w t T l) :
  Calls Tryz.prog 91 #[.pointer (some ⟨t, 0, none⟩), k.v] w fun e w' => e = .returned (.bool true) ∧ TreeA B D w' t (T1.drop1 (-1) r) l := by
 obtain ⟨nv, fv, ns, hns, hs⟩ := h
 obtain ⟨f1, f2, f3, f4⟩ := hfit
 have sK := Bb (hs.alloc #[.bool k.t, .int .i64 k.n, .string k.s] tV)
 have tp := Bb hns
 have tD := Bb hroot
 have HR := Bb hr
 have vk := Bb hrem
 have HM := Bb hm
 have sQ := Bb hk1
 have vC := Bb (And.intro hbig hfb)
 have hr0 : ¬ ((r : Int) < 0) := by omega
 have hw1 : IntKind.i64.wrap (T.k.many - 1) = T.k.many - 1 := bO _ (by omega) (by omega)
 have hw2 : IntKind.i64.wrap (T.k.depth - 1) = T.k.depth - 1 := bO _ (by omega) (by omega)
 have sL := Bb hw1
 have wk := Bb hw2
 have HL := Bb hl
 have HZ := Bb hz
 clear hl hz
 clear hs hns hroot hr hrem hm hk1 hw1 hw2
 dsimp only [Val.v]
 go_enter Tryz.func91, Tryz.ntmps91
 go_upto_region 1 with (fail)
 obtain ⟨W, hW, hs2⟩ := sK.out.hide
 rw [← hW]
 clear sK hW
 generalize w.heap.size = bk at hs2 ⊢
 obtain ⟨t0, t1, t2, t3, t4, tf⟩ := hs2.tcells
 obtain ⟨x0, x1, x2, xf⟩ := aS (Sat.blk hs2 4 rfl)
 rw [tD.out] at t2
 have sR := Bb hs2
 clear hs2
 refine af [(0, false, 11), (1, false, 11), (2, false, 11), (3, false, 11), (4, false, 11), (5, false, 11), (6, false, 11), (7, false, 11), (8, false, 11), (9, false, 11), (10, false, 11), (11, true, 0), (12, false, 21), (13, false, 21), (14, false, 21), (15, false, 21), (16, false, 21), (17, false, 21), (18, false, 21), (19, false, 21), (20, false, 21), (21, true, 0), (22, false, 999), (23, false, 999)] (by kernel_rfl) (by kernel_rfl) ?_
 iterate 3 (refine ae rfl rfl (fun K hK => ?_); go_simp; refine hK _ ?_; clear hK K)
 iterate 5 (first | (refine ar rfl rfl ?_; simp only [Act.put, Bc, Bd, Be, Bf, Bg, Bh]) | (refine al rfl rfl (fun K hK => ?_); go_simp; refine hK _ ?_; clear hK K))
 iterate 2 (refine ae rfl rfl (fun K hK => ?_); go_simp; refine hK _ ?_; clear hK K)
 first | (refine ar rfl rfl ?_; simp only [Act.put, Bc, Bd, Be, Bf, Bg, Bh]) | (refine al rfl rfl (fun K hK => ?_); go_simp; refine hK _ ?_; clear hK K)
 refine ag rfl ?_
 refine am rfl (fun K hK => ?_)
 go_simp
 refine (aG k _).mono ?_
 rw [HR.out]
 rintro e1 w1 ⟨rfl, hk1⟩
 have sO := Bb ((sR.out.drew).kept hk1)
 clear hk1 sR x0 x1 x2 xf t0 t1 t2 t3 t4 tf
 obtain ⟨t0, t1, t2, t3, t4, tf⟩ := sO.out.tcells
 obtain ⟨x0, x1, x2, xf⟩ := aS (Sat.blk sO.out 4 rfl)
 rw [tD.out] at t2
 have xq := Bb (vk.out w1 _ ⟨_, _, _, tp.out, sO.out⟩)
 refine hK _ _ ?_
 clear hK K
 refine wpList_nil ?_
 refine And.intro ?_ ?_
 ·go_simp
 first | (refine ar rfl rfl ?_; simp only [Act.put, Bc, Bd, Be, Bf, Bg, Bh]) | (refine al rfl rfl (fun K hK => ?_); go_simp; refine hK _ ?_; clear hK K)
 iterate 2 (refine ae rfl rfl (fun K hK => ?_); go_simp; refine hK _ ?_; clear hK K)
 iterate 6 (first | (refine ar rfl rfl ?_; simp only [Act.put, Bc, Bd, Be, Bf, Bg, Bh]) | (refine al rfl rfl (fun K hK => ?_); go_simp; refine hK _ ?_; clear hK K))
 refine ag rfl ?_
 refine am rfl (fun K hK => ?_)
 go_simp
 refine xq.out.mono ?_
 rintro e2 w2 ⟨rfl, nv2, fv2, ns2, hns2, hs2⟩
 rw [sQ.out] at hs2
 have sV := Bb hs2
 have uq := Bb hns2
 clear hns2 x0 x1 x2 xf t0 t1 t2 t3 t4 tf
 obtain ⟨t0, t1, t2, t3, t4, tf⟩ := hs2.tcells
 obtain ⟨x0, x1, x2, xf⟩ := aS (Sat.blk hs2 4 rfl)
 rw [tD.out] at t2
 clear hs2
 refine hK _ _ ?_
 clear hK K
 refine wpList_nil ?_
 refine And.intro ?_ ?_
 ·go_simp
 first | (refine ar rfl rfl ?_; simp only [Act.put, Bc, Bd, Be, Bf, Bg, Bh]) | (refine al rfl rfl (fun K hK => ?_); go_simp; refine hK _ ?_; clear hK K)
 refine ae rfl rfl (fun K hK => ?_); go_simp; refine hK _ ?_; clear hK K
 refine ah ?_
 obtain ⟨⟨kv, vv, dv⟩, hp⟩ := aE uq.out HM.out
 have hlt := (List.getElem?_eq_some_iff.1 hp).1
 have hib : (r : Int) < (ns2.length : Int) := by omega
 have HP := Bb hp
 obtain ⟨g, c, rfl, _, hcm⟩ := sV.out.nv_some (by omega)
 unfold maxLen at hcm
 clear hp
 have hw1 := sL.out
 go_upto_region 4 with (fail)
 obtain ⟨W5, hW5, hs5⟩ := (sV.out.set_many (T.k.many - 1)).hide
 rw [← hW5]
 clear hW5 sV t0 t1 t2 t3 t4 tf x0 x1 x2 xf hw1
 obtain ⟨t0, t1, t2, t3, t4, tf⟩ := hs5.tcells
 obtain ⟨n0, n1, n2, n3, nf⟩ := hs5.node_cells HP.out
 dsimp only at n0 n1 n2 n3 t2 t3 t4
 rw [tD.out] at t2
 rw [HL.out] at n0
 have hz0 : T.k.many - 1 = 0 := by have := HZ.out; omega
 have td := Bb hs5
 clear hs5
 go_upto_region 10 with (fail)
 obtain ⟨W6, hW6, hs6⟩ := (td.out.set_root (-1)).hide
 rw [← hW6]
 clear hW6 td t0 t1 t2 t3 t4 tf n0 n1 n2 n3 nf
 have HG := Bb (jH (B := B) (D := D) (t := t) (T := { T1 with k := { root := (-1), many := T.k.many - 1, depth := T.k.depth } }) (i := r) (List.getElem?_eq_some_iff.1 HM.out).1 vC.out.1 vC.out.2 ⟨_, _, _, uq.out, hs6⟩)
 clear hs6
 go_upto_region 11 with ((go_at_call 106; refine HG.out.mono ?_; rintro e7 w7 ⟨rfl, nv7, fv7, ns7, hns7, hs7⟩; obtain ⟨t0, t1, t2, t3, t4, tf⟩ := hs7.tcells; have tO := Bb hs7; have vY := Bb hns7; clear hs7 hns7; dsimp only [TM.give] at t4))
 have hw2 := wk.out
 go_wp2_with (fail)
 go_ret
 refine ⟨rfl, nv7, fv7, ns7, vY.out, ?_⟩
 rw [show (T1.drop1 (-1) r).k = ({ root := -1, many := T.k.many - 1, depth := T.k.depth - 1 } : Num) by unfold TM.drop1; rw [sQ.out]]
 exact (tO.out.set_depth (T.k.depth - 1)).drop
theorem oK {B w : World} {D : PH} {t r : Nat} {T T1 : TM} {l : List HP} {k : Val} {m : NodeM} (hr : ak k = true) (hrem : ∀ (w : World) (l : List HP), TreeA B D w t T l → Calls Tryz.prog 105 #[.pointer (some ⟨t, 0, none⟩), .int .i64 r, k.v] w fun e w' => e = .returned (.bool true) ∧ TreeA B D w' t T1 l)
  (hroot : T.k.root = (r : Int)) (hk1 : T1.k = T.k) (hfit : T.k.fit) (hm : T1.nodes[r]? = some m) (hbig : T1.nodes.length ≤ 1000000) (hfb : T1.free.length ≤ 1000000) {c0 : Nat} (hl : m.leaf = false) (hz : m.kids = [c0]) (h : TreeA B D w t T l) :
  Calls Tryz.prog 91 #[.pointer (some ⟨t, 0, none⟩), k.v] w fun e w' => e = .returned (.bool true) ∧ TreeA B D w' t (T1.drop1 (c0 : Int) r) l := by
 obtain ⟨nv, fv, ns, hns, hs⟩ := h
 obtain ⟨f1, f2, f3, f4⟩ := hfit
 have sK := Bb (hs.alloc #[.bool k.t, .int .i64 k.n, .string k.s] tV)
 have tp := Bb hns
 have tD := Bb hroot
 have HR := Bb hr
 have vk := Bb hrem
 have HM := Bb hm
 have sQ := Bb hk1
 have vC := Bb (And.intro hbig hfb)
 have hr0 : ¬ ((r : Int) < 0) := by omega
 have hw1 : IntKind.i64.wrap (T.k.many - 1) = T.k.many - 1 := bO _ (by omega) (by omega)
 have hw2 : IntKind.i64.wrap (T.k.depth - 1) = T.k.depth - 1 := bO _ (by omega) (by omega)
 have sL := Bb hw1
 have wk := Bb hw2
 have HL := Bb hl
 have HZ := Bb hz
 clear hl hz
 clear hs hns hroot hr hrem hm hk1 hw1 hw2
 dsimp only [Val.v]
 go_enter Tryz.func91, Tryz.ntmps91
 go_upto_region 1 with (fail)
 obtain ⟨W, hW, hs2⟩ := sK.out.hide
 rw [← hW]
 clear sK hW
 generalize w.heap.size = bk at hs2 ⊢
 obtain ⟨t0, t1, t2, t3, t4, tf⟩ := hs2.tcells
 obtain ⟨x0, x1, x2, xf⟩ := aS (Sat.blk hs2 4 rfl)
 rw [tD.out] at t2
 have sR := Bb hs2
 clear hs2
 refine af [(0, false, 11), (1, false, 11), (2, false, 11), (3, false, 11), (4, false, 11), (5, false, 11), (6, false, 11), (7, false, 11), (8, false, 11), (9, false, 11), (10, false, 11), (11, true, 0), (12, false, 21), (13, false, 21), (14, false, 21), (15, false, 21), (16, false, 21), (17, false, 21), (18, false, 21), (19, false, 21), (20, false, 21), (21, true, 0), (22, false, 999), (23, false, 999)] (by kernel_rfl) (by kernel_rfl) ?_
 iterate 3 (refine ae rfl rfl (fun K hK => ?_); go_simp; refine hK _ ?_; clear hK K)
 iterate 5 (first | (refine ar rfl rfl ?_; simp only [Act.put, Bc, Bd, Be, Bf, Bg, Bh]) | (refine al rfl rfl (fun K hK => ?_); go_simp; refine hK _ ?_; clear hK K))
 iterate 2 (refine ae rfl rfl (fun K hK => ?_); go_simp; refine hK _ ?_; clear hK K)
 first | (refine ar rfl rfl ?_; simp only [Act.put, Bc, Bd, Be, Bf, Bg, Bh]) | (refine al rfl rfl (fun K hK => ?_); go_simp; refine hK _ ?_; clear hK K)
 refine ag rfl ?_
 refine am rfl (fun K hK => ?_)
 go_simp
 refine (aG k _).mono ?_
 rw [HR.out]
 rintro e1 w1 ⟨rfl, hk1⟩
 have sO := Bb ((sR.out.drew).kept hk1)
 clear hk1 sR x0 x1 x2 xf t0 t1 t2 t3 t4 tf
 obtain ⟨t0, t1, t2, t3, t4, tf⟩ := sO.out.tcells
 obtain ⟨x0, x1, x2, xf⟩ := aS (Sat.blk sO.out 4 rfl)
 rw [tD.out] at t2
 have xq := Bb (vk.out w1 _ ⟨_, _, _, tp.out, sO.out⟩)
 refine hK _ _ ?_
 clear hK K
 refine wpList_nil ?_
 refine And.intro ?_ ?_
 ·go_simp
 first | (refine ar rfl rfl ?_; simp only [Act.put, Bc, Bd, Be, Bf, Bg, Bh]) | (refine al rfl rfl (fun K hK => ?_); go_simp; refine hK _ ?_; clear hK K)
 iterate 2 (refine ae rfl rfl (fun K hK => ?_); go_simp; refine hK _ ?_; clear hK K)
 iterate 6 (first | (refine ar rfl rfl ?_; simp only [Act.put, Bc, Bd, Be, Bf, Bg, Bh]) | (refine al rfl rfl (fun K hK => ?_); go_simp; refine hK _ ?_; clear hK K))
 refine ag rfl ?_
 refine am rfl (fun K hK => ?_)
 go_simp
 refine xq.out.mono ?_
 rintro e2 w2 ⟨rfl, nv2, fv2, ns2, hns2, hs2⟩
 rw [sQ.out] at hs2
 have sV := Bb hs2
 have uq := Bb hns2
 clear hns2 x0 x1 x2 xf t0 t1 t2 t3 t4 tf
 obtain ⟨t0, t1, t2, t3, t4, tf⟩ := hs2.tcells
 obtain ⟨x0, x1, x2, xf⟩ := aS (Sat.blk hs2 4 rfl)
 rw [tD.out] at t2
 clear hs2
 refine hK _ _ ?_
 clear hK K
 refine wpList_nil ?_
 refine And.intro ?_ ?_
 ·go_simp
 first | (refine ar rfl rfl ?_; simp only [Act.put, Bc, Bd, Be, Bf, Bg, Bh]) | (refine al rfl rfl (fun K hK => ?_); go_simp; refine hK _ ?_; clear hK K)
 refine ae rfl rfl (fun K hK => ?_); go_simp; refine hK _ ?_; clear hK K
 refine ah ?_
 obtain ⟨⟨kv, vv, dv⟩, hp⟩ := aE uq.out HM.out
 have hlt := (List.getElem?_eq_some_iff.1 hp).1
 have hib : (r : Int) < (ns2.length : Int) := by omega
 have HP := Bb hp
 obtain ⟨g, c, rfl, _, hcm⟩ := sV.out.nv_some (by omega)
 unfold maxLen at hcm
 clear hp
 have hw1 := sL.out
 go_upto_region 4 with (fail)
 obtain ⟨W5, hW5, hs5⟩ := (sV.out.set_many (T.k.many - 1)).hide
 rw [← hW5]
 clear hW5 sV t0 t1 t2 t3 t4 tf x0 x1 x2 xf hw1
 obtain ⟨t0, t1, t2, t3, t4, tf⟩ := hs5.tcells
 obtain ⟨n0, n1, n2, n3, nf⟩ := hs5.node_cells HP.out
 dsimp only at n0 n1 n2 n3 t2 t3 t4
 rw [tD.out] at t2
 rw [HL.out] at n0
 obtain ⟨dg, dc, hdv, hdc1, hdc2⟩ := aB (Sat.own (hs5.focus HP.out) 2 rfl) (by show 0 < m.kids.length; rw [HZ.out]; simp)
 dsimp only at hdv
 rw [HZ.out] at hdv
 subst hdv
 have hkr := hs5.kids_rd HP.out
 dsimp only at hkr
 have hcell := bq (by rw [HZ.out] at hkr; rw [HZ.out]; exact hkr) (show m.kids[0]? = some c0 by rw [HZ.out]; rfl)
 clear hkr
 have td := Bb hs5
 clear hs5
 go_upto_region 10 with (fail)
 obtain ⟨W6, hW6, hs6⟩ := (td.out.set_root (c0 : Int)).hide
 rw [← hW6]
 clear hW6 td t0 t1 t2 t3 t4 tf n0 n1 n2 n3 nf hcell
 have HG := Bb (jH (B := B) (D := D) (t := t) (T := { T1 with k := { root := (c0 : Int), many := T.k.many - 1, depth := T.k.depth } }) (i := r) (List.getElem?_eq_some_iff.1 HM.out).1 vC.out.1 vC.out.2 ⟨_, _, _, uq.out, hs6⟩)
 clear hs6
 go_upto_region 11 with ((go_at_call 106; refine HG.out.mono ?_; rintro e7 w7 ⟨rfl, nv7, fv7, ns7, hns7, hs7⟩; obtain ⟨t0, t1, t2, t3, t4, tf⟩ := hs7.tcells; have tO := Bb hs7; have vY := Bb hns7; clear hs7 hns7; dsimp only [TM.give] at t4))
 have hw2 := wk.out
 go_wp2_with (fail)
 go_ret
 refine ⟨rfl, nv7, fv7, ns7, vY.out, ?_⟩
 rw [show (T1.drop1 (c0 : Int) r).k = ({ root := (c0 : Int), many := T.k.many - 1, depth := T.k.depth - 1 } : Num) by unfold TM.drop1; rw [sQ.out]]
 exact (tO.out.set_depth (T.k.depth - 1)).drop
theorem nA {B w : World} {D : PH} {t r : Nat} {T T1 : TM} {l : List HP} {k : Val} {m : NodeM} (hr : ak k = true) (hrem : ∀ (w : World) (l : List HP), TreeA B D w t T l → Calls Tryz.prog 105 #[.pointer (some ⟨t, 0, none⟩), .int .i64 r, k.v] w fun e w' => e = .returned (.bool true) ∧ TreeA B D w' t T1 l)
  (hroot : T.k.root = (r : Int)) (hk1 : T1.k = T.k) (hfit : T.k.fit) (hm : T1.nodes[r]? = some m) (hbig : T1.nodes.length ≤ 1000000) (hfb : T1.free.length ≤ 1000000) (hz : (m.leaf = true ∧ T.k.many ≠ 1) ∨ (m.leaf = false ∧ m.kids.length ≠ 1)) (h : TreeA B D w t T l) :
  Calls Tryz.prog 91 #[.pointer (some ⟨t, 0, none⟩), k.v] w fun e w' => e = .returned (.bool true) ∧ TreeA B D w' t T1.less l := by
 obtain ⟨nv, fv, ns, hns, hs⟩ := h
 obtain ⟨f1, f2, f3, f4⟩ := hfit
 have sK := Bb (hs.alloc #[.bool k.t, .int .i64 k.n, .string k.s] tV)
 have tp := Bb hns
 have tD := Bb hroot
 have HR := Bb hr
 have vk := Bb hrem
 have HM := Bb hm
 have sQ := Bb hk1
 have vC := Bb (And.intro hbig hfb)
 have hr0 : ¬ ((r : Int) < 0) := by omega
 have hw1 : IntKind.i64.wrap (T.k.many - 1) = T.k.many - 1 := bO _ (by omega) (by omega)
 have hw2 : IntKind.i64.wrap (T.k.depth - 1) = T.k.depth - 1 := bO _ (by omega) (by omega)
 have sL := Bb hw1
 have wk := Bb hw2
 have HZ := Bb hz
 clear hz
 clear hs hns hroot hr hrem hm hk1 hw1 hw2
 dsimp only [Val.v]
 go_enter Tryz.func91, Tryz.ntmps91
 go_upto_region 1 with (fail)
 obtain ⟨W, hW, hs2⟩ := sK.out.hide
 rw [← hW]
 clear sK hW
 generalize w.heap.size = bk at hs2 ⊢
 obtain ⟨t0, t1, t2, t3, t4, tf⟩ := hs2.tcells
 obtain ⟨x0, x1, x2, xf⟩ := aS (Sat.blk hs2 4 rfl)
 rw [tD.out] at t2
 have sR := Bb hs2
 clear hs2
 refine af [(0, false, 11), (1, false, 11), (2, false, 11), (3, false, 11), (4, false, 11), (5, false, 11), (6, false, 11), (7, false, 11), (8, false, 11), (9, false, 11), (10, false, 11), (11, true, 0), (12, false, 21), (13, false, 21), (14, false, 21), (15, false, 21), (16, false, 21), (17, false, 21), (18, false, 21), (19, false, 21), (20, false, 21), (21, true, 0), (22, false, 999), (23, false, 999)] (by kernel_rfl) (by kernel_rfl) ?_
 iterate 3 (refine ae rfl rfl (fun K hK => ?_); go_simp; refine hK _ ?_; clear hK K)
 iterate 5 (first | (refine ar rfl rfl ?_; simp only [Act.put, Bc, Bd, Be, Bf, Bg, Bh]) | (refine al rfl rfl (fun K hK => ?_); go_simp; refine hK _ ?_; clear hK K))
 iterate 2 (refine ae rfl rfl (fun K hK => ?_); go_simp; refine hK _ ?_; clear hK K)
 first | (refine ar rfl rfl ?_; simp only [Act.put, Bc, Bd, Be, Bf, Bg, Bh]) | (refine al rfl rfl (fun K hK => ?_); go_simp; refine hK _ ?_; clear hK K)
 refine ag rfl ?_
 refine am rfl (fun K hK => ?_)
 go_simp
 refine (aG k _).mono ?_
 rw [HR.out]
 rintro e1 w1 ⟨rfl, hk1⟩
 have sO := Bb ((sR.out.drew).kept hk1)
 clear hk1 sR x0 x1 x2 xf t0 t1 t2 t3 t4 tf
 obtain ⟨t0, t1, t2, t3, t4, tf⟩ := sO.out.tcells
 obtain ⟨x0, x1, x2, xf⟩ := aS (Sat.blk sO.out 4 rfl)
 rw [tD.out] at t2
 have xq := Bb (vk.out w1 _ ⟨_, _, _, tp.out, sO.out⟩)
 refine hK _ _ ?_
 clear hK K
 refine wpList_nil ?_
 refine And.intro ?_ ?_
 ·go_simp
 first | (refine ar rfl rfl ?_; simp only [Act.put, Bc, Bd, Be, Bf, Bg, Bh]) | (refine al rfl rfl (fun K hK => ?_); go_simp; refine hK _ ?_; clear hK K)
 iterate 2 (refine ae rfl rfl (fun K hK => ?_); go_simp; refine hK _ ?_; clear hK K)
 iterate 6 (first | (refine ar rfl rfl ?_; simp only [Act.put, Bc, Bd, Be, Bf, Bg, Bh]) | (refine al rfl rfl (fun K hK => ?_); go_simp; refine hK _ ?_; clear hK K))
 refine ag rfl ?_
 refine am rfl (fun K hK => ?_)
 go_simp
 refine xq.out.mono ?_
 rintro e2 w2 ⟨rfl, nv2, fv2, ns2, hns2, hs2⟩
 rw [sQ.out] at hs2
 have sV := Bb hs2
 have uq := Bb hns2
 clear hns2 x0 x1 x2 xf t0 t1 t2 t3 t4 tf
 obtain ⟨t0, t1, t2, t3, t4, tf⟩ := hs2.tcells
 obtain ⟨x0, x1, x2, xf⟩ := aS (Sat.blk hs2 4 rfl)
 rw [tD.out] at t2
 clear hs2
 refine hK _ _ ?_
 clear hK K
 refine wpList_nil ?_
 refine And.intro ?_ ?_
 ·go_simp
 first | (refine ar rfl rfl ?_; simp only [Act.put, Bc, Bd, Be, Bf, Bg, Bh]) | (refine al rfl rfl (fun K hK => ?_); go_simp; refine hK _ ?_; clear hK K)
 refine ae rfl rfl (fun K hK => ?_); go_simp; refine hK _ ?_; clear hK K
 refine ah ?_
 obtain ⟨⟨kv, vv, dv⟩, hp⟩ := aE uq.out HM.out
 have hlt := (List.getElem?_eq_some_iff.1 hp).1
 have hib : (r : Int) < (ns2.length : Int) := by omega
 have HP := Bb hp
 obtain ⟨g, c, rfl, _, hcm⟩ := sV.out.nv_some (by omega)
 unfold maxLen at hcm
 clear hp
 have hw1 := sL.out
 go_upto_region 4 with (fail)
 obtain ⟨W5, hW5, hs5⟩ := (sV.out.set_many (T.k.many - 1)).hide
 rw [← hW5]
 clear hW5 sV t0 t1 t2 t3 t4 tf x0 x1 x2 xf hw1
 obtain ⟨t0, t1, t2, t3, t4, tf⟩ := hs5.tcells
 obtain ⟨n0, n1, n2, n3, nf⟩ := hs5.node_cells HP.out
 dsimp only at n0 n1 n2 n3 t2 t3 t4
 rw [tD.out] at t2
 obtain ⟨dO, dc, hdv⟩ := (hs5.focus HP.out).drop.drop.own_shape
 dsimp only at hdv
 subst hdv
 have td := Bb hs5
 clear hs5
 rcases HZ.out with ⟨hl, hz⟩ | ⟨hl, hz⟩
 ·rw [hl] at n0
  have hz0 : (T.k.many - 1 == 0) = false := by simp; omega
  clear hl hz
  go_wp2_with (fail)
  go_ret
  refine ⟨rfl, .slice (some ⟨g, 0, none⟩) ns2.length c, fv2, ns2, uq.out, ?_⟩
  rw [show T1.less.k = ({ root := T.k.root, many := T.k.many - 1, depth := T.k.depth } : Num) by unfold TM.less; rw [sQ.out]]
  exact td.out.drop
 ·rw [hl] at n0
  have hz0 : ((m.kids.length : Int) == 1) = false := by simp; omega
  clear hl hz
  go_wp2_with (fail)
  go_ret
  refine ⟨rfl, .slice (some ⟨g, 0, none⟩) ns2.length c, fv2, ns2, uq.out, ?_⟩
  rw [show T1.less.k = ({ root := T.k.root, many := T.k.many - 1, depth := T.k.depth } : Num) by unfold TM.less; rw [sQ.out]]
  exact td.out.drop
theorem TreeA.nil_of {B w : World} {D : PH} {t : Nat} {T : TM} {l : List HP} (h : TreeA B D w t T l) (hr : T.k.root < 0) : NilT w (.pointer (some ⟨t, 0, none⟩)) := by
 obtain ⟨nv, fv, ns, hns, hs⟩ := h
 exact .inr ⟨t, _, rfl, hs.tcells.2.2.1, hr⟩
end Go.Proofs.YtdobimafhbfkhaaGreat
