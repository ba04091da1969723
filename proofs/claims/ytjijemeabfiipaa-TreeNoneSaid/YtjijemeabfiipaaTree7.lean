/- The tree: contract of put. -/
import Derived.Test.YtjijemeabfiipaaTree6
namespace Go.Proofs.Ytjijemeabfiipaa
open Go.ChangeShapes Go.WideShapes Go.ChangeAt Go.RowKit
set_option maxRecDepth 100000
set_option linter.unusedSimpArgs false

/-- what put does below a node -/
inductive TM.PutR (k : Val) (v : VT) : TM → Nat → TM → Bool → Prop
  | found {T : TM} {i : Nat} {m : NodeM} (hi : T.nodes[i]? = some m) (hl : m.leaf = true) (hkb : m.keys.length ≤ 1000) (hv : m.vals.length = m.keys.length) (his : bsIs m.keys k = true) : TM.PutR k v T i { T with nodes := T.nodes.set i { m with vals := m.vals.set (bsAt m.keys k) v } } false
  | fresh {T : TM} {i : Nat} {m : NodeM} (hi : T.nodes[i]? = some m) (hl : m.leaf = true) (hkb : m.keys.length ≤ 1000) (hv : m.vals.length = m.keys.length) (his : bsIs m.keys k = false) : TM.PutR k v T i { T with nodes := T.nodes.set i { m with keys := insAt m.keys (bsAt m.keys k) k, vals := insAt m.vals (bsAt m.keys k) v } } true
  | inner {T T1 : TM} {i kid : Nat} {m mk : NodeM} {fr : Bool} (hi : T.nodes[i]? = some m) (hl : m.leaf = false) (hkb : m.keys.length ≤ 1000) (hc : m.kids[belowF m.keys k]? = some kid) (hp : TM.PutR k v T kid T1 fr) (hk : T1.nodes[kid]? = some mk) (hz : mk.size ≤ 4) : TM.PutR k v T i T1 fr
  | grown {T T1 T2 : TM} {i kid : Nat} {m mk : NodeM} {fr : Bool} (hi : T.nodes[i]? = some m) (hl : m.leaf = false) (hkb : m.keys.length ≤ 1000) (hc : m.kids[belowF m.keys k]? = some kid) (hp : TM.PutR k v T kid T1 fr) (hk : T1.nodes[kid]? = some mk) (hz : 4 < mk.size) (hs : T1.Split i (belowF m.keys k) T2) : TM.PutR k v T i T2 fr

set_option maxHeartbeats 2000000 in
theorem put_inner {B w : World} {D : PH} {t : Nat} {T T1 T2 : TM} {l : List HP} {i kid : Nat} {m mk : NodeM} {k : Val} {v : VT} {fr : Bool} (hi : T.nodes[i]? = some m) (hl : m.leaf = false) (hkb : m.keys.length ≤ 1000) (hc : m.kids[belowF m.keys k]? = some kid)
    (ih : ∀ (w : World) (l : List HP), TreeA B D w t T l → Calls Try.prog 29 #[.pointer (some ⟨t, 0, none⟩), .int .i64 kid, k.v, .int .i64 v] w fun e w' => e = .returned (.bool fr) ∧ TreeA B D w' t T1 l)
    (hk : T1.nodes[kid]? = some mk) (hz : (mk.size ≤ 4 ∧ T2 = T1) ∨ (4 < mk.size ∧ T1.Split i (belowF m.keys k) T2)) (h : TreeA B D w t T l) :
    Calls Try.prog 29 #[.pointer (some ⟨t, 0, none⟩), .int .i64 i, k.v, .int .i64 v] w fun e w' => e = .returned (.bool fr) ∧ TreeA B D w' t T2 l := by
  obtain ⟨nv, fv, ns, hns, hs⟩ := h
  obtain ⟨⟨kv, vv, dv⟩, hp⟩ := get_node hns hi
  have hlt := (List.getElem?_eq_some_iff.1 hp).1
  obtain ⟨g, c, rfl, _, hcm⟩ := hs.nv_some (by omega)
  unfold maxLen at hcm
  have hs1 := hs.alloc #[.bool k.t, .int .i64 k.n, .string k.s] tV
  have hib : (i : Int) < (ns.length : Int) := by omega
  have HS1 := Lib.hid hs1
  have HP := Lib.hid hp
  have HNS := Lib.hid hns
  have HL := Lib.hid hl
  have hcl := (List.getElem?_eq_some_iff.1 hc).1
  have HC := Lib.hid hc
  have HI := Lib.hid hi
  have IH := Lib.hid ih
  have HK := Lib.hid hk
  have hkb2 : m.keys.length ≤ 1000000 := by omega
  clear hs hs1 hp hi hns hl hc ih hk
  dsimp only [Val.v]
  go_enter Try.func29, Try.ntmps29
  go_upto_region 1 with (fail)
  obtain ⟨W, hW, hs2⟩ := HS1.out.hide
  rw [← hW]
  clear HS1 hW
  generalize w.heap.size = bk at hs2 ⊢
  obtain ⟨t0, t1, t2, t3, t4, tf⟩ := hs2.tcells
  obtain ⟨n0, n1, n2, n3, nf⟩ := hs2.node_cells HP.out
  obtain ⟨x0, x1, x2, xf⟩ := cells3 (Sat.blk hs2 4 rfl)
  dsimp only at n0 n1 n2 n3
  rw [HL.out] at n0
  obtain ⟨C, hC⟩ : ∃ C, belowF m.keys k = C := ⟨_, rfl⟩
  have HB := Lib.hid (below_ok (i := i) k HI.out hkb2 ⟨_, _, _, HNS.out, hs2⟩)
  rw [hC] at HB HC hcl hz
  have HS2 := Lib.hid hs2
  have HZ := Lib.hid hz
  clear hs2 hC hz
  go_upto_region 11 with ((go_at_call 44; refine HB.out.mono ?_; rintro e1 w1 ⟨rfl, hk1⟩; have hs3 := HS2.out.kept hk1; have HS3 := Lib.hid hs3; clear hk1 HS2 x0 x1 x2 xf t0 t1 t2 t3 t4 tf n0 n1 n2 n3 nf HB; clear hs3))
  have hs3 := HS3.out
  obtain ⟨t0, t1, t2, t3, t4, tf⟩ := hs3.tcells
  obtain ⟨n0, n1, n2, n3, nf⟩ := hs3.node_cells HP.out
  obtain ⟨x0, x1, x2, xf⟩ := cells3 (Sat.blk hs3 4 rfl)
  obtain ⟨dg, dc, hdv, hdc1, hdc2⟩ := some_shape (Sat.own (hs3.focus HP.out) 2 rfl) (by show 0 < m.kids.length; omega)
  dsimp only at n0 n1 n2 n3 hdv
  subst hdv
  have hcell := ids_cell (hs3.kids_rd HP.out) HC.out
  have hcb : (C : Int) < (m.kids.length : Int) := by omega
  have HP3 := Lib.hid (IH.out w1 _ ⟨_, _, _, HNS.out, hs3⟩)
  clear hs3 HS3
  go_upto_region 13 with ((go_at_call 29; refine HP3.out.mono ?_; rintro e2 w2 ⟨rfl, hs4⟩; have HA4 := Lib.hid hs4; clear hs4 HP3 x0 x1 x2 xf t0 t1 t2 t3 t4 tf n0 n1 n2 n3 nf hcell))
  have HSZ := Lib.hid (size_ok HK.out HA4.out)
  rcases HZ.out with ⟨hz, rfl⟩ | ⟨hz, hsp⟩
  · have hz' : ¬ ((mk.size : Int) > 4) := by omega
    go_wp2_with ((go_at_call 30; refine HSZ.out.mono ?_; rintro e3 w3 ⟨rfl, rfl⟩))
    go_ret
    obtain ⟨nv4, fv4, ns4, hns4, hs4⟩ := HA4.out
    exact ⟨rfl, _, _, _, hns4, hs4.drop⟩
  · have hz' : ((mk.size : Int) > 4) := by omega
    have HSP := Lib.hid (split_ok hsp HA4.out)
    clear hsp
    go_wp2_with (first | (go_at_call 30; refine HSZ.out.mono ?_; rintro e3 w3 ⟨rfl, rfl⟩) | (go_at_call 31; refine HSP.out.mono ?_; rintro e5 w5 ⟨rfl, hs5⟩; have HA5 := Lib.hid hs5; clear hs5))
    go_ret
    obtain ⟨nv5, fv5, ns5, hns5, hs5⟩ := HA5.out
    exact ⟨rfl, _, _, _, hns5, hs5.drop⟩

theorem put_ok {B : World} {D : PH} {t : Nat} {T T' : TM} {i : Nat} {k : Val} {v : VT} {fr : Bool} (hp : T.PutR k v i T' fr) : ∀ (w : World) (l : List HP), TreeA B D w t T l →
    Calls Try.prog 29 #[.pointer (some ⟨t, 0, none⟩), .int .i64 i, k.v, .int .i64 v] w fun e w' => e = .returned (.bool fr) ∧ TreeA B D w' t T' l := by
  induction hp with
  | found hi hl hkb hv his => intro w l h; exact put_found hi hl hkb hv his h
  | fresh hi hl hkb hv his => intro w l h; exact put_fresh hi hl hkb hv his h
  | inner hi hl hkb hc hp hk hz ih => intro w l h; exact put_inner hi hl hkb hc ih hk (.inl ⟨hz, rfl⟩) h
  | grown hi hl hkb hc hp hk hz hs ih => intro w l h; exact put_inner hi hl hkb hc ih hk (.inr ⟨hz, hs⟩) h
end Go.Proofs.Ytjijemeabfiipaa
