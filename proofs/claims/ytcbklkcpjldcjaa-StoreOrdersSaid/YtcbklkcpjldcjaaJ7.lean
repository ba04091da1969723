/- The tree: contract of split of a node that has nodes below. -/
import Derived.Test.YtcbklkcpjldcjaaJ6
namespace Go.Proofs.Ytcbklkcpjldcjaa
open Go.ChangeShapes Go.WideShapes Go.ChangeAt Go.RowKit
set_option maxRecDepth 100000
set_option linter.unusedSimpArgs false

set_option maxHeartbeats 8000000 in
theorem split_node {B w : World} {D : PH} {t : Nat} {T : TM} {l : List HP} {i c kid : Nat} {mi mk : NodeM} {nw : Nat} {T1 : TM} {sep : Val} (hsl : T.slot mk.leaf = (nw, T1)) (hsep : mk.keys[mk.keys.length / 2]? = some sep) (hi : T.nodes[i]? = some mi) (hc : mi.kids[c]? = some kid) (hk : T.nodes[kid]? = some mk) (hik : i ≠ kid) (hleaf : mk.leaf = false)
    (hfr : ∀ x, T.free.getLast? = some x → x < T.nodes.length ∧ x ≠ i ∧ x ≠ kid) (hbig : T.nodes.length ≤ 1000000) (hfb : T.free.length ≤ 1000000)
    (hkl : 3 ≤ mk.keys.length) (hkb : mk.keys.length ≤ 1000) (hvl : mk.kids.length = mk.keys.length + 1) (hil : c ≤ mi.keys.length) (hil2 : mi.kids.length = mi.keys.length + 1) (hib : mi.keys.length ≤ 1000) (h : TreeA B D w t T l) :
    Calls Try.prog 58 #[.pointer (some ⟨t, 0, none⟩), .int .i64 i, .int .i64 c] w fun e w' => e = .returned (.tuple #[]) ∧
      TreeA B D w' t (T1.spl nw i kid c mi mk sep) l := by
  have hA := h
  have hkc0 : c + 1 ≤ mi.kids.length := by omega
  have hkc1' : mi.kids.length ≤ 1001 := by omega
  clear hil2
  obtain ⟨nv, fv, ns, hns, hs⟩ := h
  obtain ⟨⟨ikv, ivv, idv⟩, hpi⟩ := get_node hns hi
  obtain ⟨⟨kkv, kvv, kdv⟩, hpk⟩ := get_node hns hk
  have hlti := (List.getElem?_eq_some_iff.1 hpi).1
  have hltk := (List.getElem?_eq_some_iff.1 hpk).1
  have hlen : T.nodes.length = ns.length := by rw [← hns, List.length_map]
  obtain ⟨g, cn, rfl, _, hcm⟩ := hs.nv_some (by omega)
  obtain ⟨t0, t1, t2, t3, t4, tf⟩ := hs.tcells
  obtain ⟨n0, n1, n2, n3, nf⟩ := hs.node_cells hpi
  obtain ⟨k0, k1, k2, k3, kf⟩ := hs.node_cells hpk
  have hkr := hs.kids_rd hpi
  have hclt := (List.getElem?_eq_some_iff.1 hc).1
  obtain ⟨dg, dc, hdv, _, hdcm⟩ := some_shape (Sat.own (hs.focus hpi) 2 rfl) (by show 0 < mi.kids.length; omega)
  dsimp only at hdv n0 n1 n2 n3 k0 k1 k2 k3 hkr
  subst hdv
  have hcell := ids_cell hkr hc
  rw [hleaf] at k0
  unfold maxLen at hcm
  have hib1 : (i : Int) < (ns.length : Int) := by omega
  have hkb1 : (kid : Int) < (ns.length : Int) := by omega
  have hcb1 : (c : Int) < (mi.kids.length : Int) := by omega
  have HSL := Lib.hid hsl
  have hso := slot_ok false (fun x hx => (hfr x hx).1) hbig hfb hA
  rw [← hleaf, hsl] at hso
  rw [hleaf] at hso
  have HSLOT := Lib.hid hso
  have HSEP := Lib.hid hsep
  have HI := Lib.hid hi
  have HK := Lib.hid hk
  have HC := Lib.hid hc
  have HFR := Lib.hid hfr
  have HLF := Lib.hid hleaf
  have HVL := Lib.hid hvl
  clear hs hA hkr hi hk hc hpi hpk hns hfr hleaf hlen hvl hso hsl hsep
  go_enter Try.func58, Try.ntmps58
  go_upto_region 2 with ((go_at_call 55; refine HSLOT.out.mono ?_; rintro e1 w1 ⟨rfl, hs1⟩; have HA1 := Lib.hid hs1; clear hs1))
  obtain ⟨nv1, fv1, ns1, hns1, hs1⟩ := HA1.out
  have fi := slot_facts (leaf := mk.leaf) HI.out (fun x hx => ⟨(HFR.out x hx).1, (HFR.out x hx).2.1⟩)
  have fk := slot_facts (leaf := mk.leaf) HK.out (fun x hx => ⟨(HFR.out x hx).1, (HFR.out x hx).2.2⟩)
  rw [HSL.out] at fi fk
  dsimp only at fi fk
  clear HA1 HSLOT HI HK HFR t0 t1 t2 t3 t4 tf n0 n1 n2 n3 nf k0 k1 k2 k3 kf hcell hib1 hkb1
  obtain ⟨⟨ikv, ivv, idv⟩, hpi⟩ := get_node hns1 fi.2.1
  obtain ⟨⟨kkv, kvv, kdv⟩, hpk⟩ := get_node hns1 fk.2.1
  obtain ⟨⟨okv, ovv, odv⟩, hpo⟩ := get_node hns1 fi.2.2.1
  have hlti := (List.getElem?_eq_some_iff.1 hpi).1
  have hltk := (List.getElem?_eq_some_iff.1 hpk).1
  have hlto := (List.getElem?_eq_some_iff.1 hpo).1
  have hlen : T1.nodes.length = ns1.length := by rw [← hns1, List.length_map]
  have hlb := fi.2.2.2
  have hoi := fi.1
  have hok := fk.1
  obtain ⟨g, cn, rfl, _, hcm⟩ := hs1.nv_some (by omega)
  unfold maxLen at hcm
  clear fi fk hlen
  generalize hN : ns1.length = N at *
  have hib1 : (i : Int) < (N : Int) := by omega
  have hkb1 : (kid : Int) < (N : Int) := by omega
  have hob1 : (nw : Int) < (N : Int) := by omega
  -- x.keys, x.vals
  obtain ⟨kg, kc, hkv, hkc1, hkc2⟩ := some_shape (Sat.own (hs1.focus hpk) 0 rfl) (by show 0 < mk.keys.length; omega)
  obtain ⟨vg, vc, hvv, hvc1, hvc2⟩ := some_shape (Sat.own (hs1.focus hpk) 2 rfl) (by show 0 < mk.kids.length; rw [HVL.out]; omega)
  dsimp only at hkv hvv
  subst hkv hvv
  have hsep := HSEP.out
  obtain ⟨L, hL⟩ : ∃ L, mk.keys.length = L := ⟨_, rfl⟩
  have HL := Lib.hid hL
  have hvl := HVL.out
  rw [hL] at hkc1 hsep hkb hkl hvl hpk
  obtain ⟨L2, hL2⟩ : ∃ L2, mk.kids.length = L2 := ⟨_, rfl⟩
  have HL2 := Lib.hid hL2
  rw [hL2] at hvl hvc1 hpk
  have hL2a : L2 ≤ L + 1 := by omega
  have hL2b : L + 1 ≤ L2 := by omega
  obtain ⟨M, hM⟩ : ∃ M, L / 2 = M := ⟨_, rfl⟩
  have hq : (L : Int) / 2 = (M : Int) := by omega
  rw [hM] at hsep
  have hml : M < L := by omega
  have hrk0 := hs1.keys_rd hpk
  dsimp only at hrk0
  rw [hL] at hrk0
  obtain ⟨s0, s1, s2⟩ := key_cells hrk0 hsep
  clear hrk0
  simp only [Nat.zero_add] at s0 s1 s2
  obtain ⟨t0, t1, t2, t3, t4, tf⟩ := hs1.tcells
  obtain ⟨k0, k1, k2, k3, kf⟩ := hs1.node_cells hpk
  dsimp only at k0 k1 k2 k3
  rw [HLF.out] at k0
  have hmk : (M : Int) < (L : Int) := by omega
  have HS1 := Lib.hid hs1
  have HPI := Lib.hid hpi
  have HPK := Lib.hid hpk
  have HPO := Lib.hid hpo
  have HM := Lib.hid hM
  have hkcM : ¬ (kc = M + 1) := by omega
  have hvcM : ¬ (vc = M + 1) := by omega
  have hm1 : IntKind.i64.wrap ((M : Int) + 1) = (M : Int) + 1 := IntWalk.i64_in _ (by omega)
  have hm2 : ((M : Int) + 1).toNat = M + 1 := by omega
  have hm3 : (0 : Int) ≤ (M : Int) + 1 := by omega
  have hML : M ≤ L := by omega
  have hML1 : M + 1 ≤ L := by omega
  have hML2 : M + 1 ≤ L2 := by omega
  have hMLi : (M : Int) + 1 ≤ (L : Int) := by omega
  have hMLj : (M : Int) + 1 ≤ (L2 : Int) := by omega
  have hMk : (M : Int) ≤ (kc : Int) := by omega
  have hMv : (M : Int) + 1 ≤ (vc : Int) := by omega
  obtain ⟨yk, hyk⟩ : ∃ yk, mk.keys.drop (M + 1) = yk := ⟨_, rfl⟩
  obtain ⟨yv, hyv⟩ : ∃ yv, mk.kids.drop (M + 1) = yv := ⟨_, rfl⟩
  have HYK := Lib.hid hyk
  have HYV := Lib.hid hyv
  have hykl : yk.length ≤ 1000 := by rw [← hyk, List.length_drop, hL]; omega
  have hyvl : yv.length ≤ 1000 := by rw [← hyv, List.length_drop, hL2]; omega
  have HKO := Lib.hid (show ∀ u ∈ yk.flatMap Val.cells, u.oneCell' = true from fun u hu => by obtain ⟨x, _, hx⟩ := List.mem_flatMap.1 hu; exact Val.one x u hx)
  have HVO := Lib.hid (show ∀ u ∈ yv.flatMap Proofs.Ytcbklkcpjldcjaa.ncells, u.oneCell' = true from fun u hu => by obtain ⟨x, _, hx⟩ := List.mem_flatMap.1 hu; exact none_ x u hx)
  clear hs1 hpi hpk hpo hM hsep hL hvl hL2 hyk hyv
  refine wp_region_canon [(0, false, 999), (1, false, 999), (2, false, 999), (3, false, 999), (4, false, 999), (5, false, 999), (6, false, 999), (7, false, 999), (8, false, 999), (9, false, 999), (10, false, 999), (11, false, 999), (12, false, 999), (13, false, 999)] (by kernel_rfl) (by kernel_rfl) ?_
  iterate 14 (refine wpCan_read rfl rfl (fun K hK => ?_); go_simp; refine hK _ ?_; clear hK K)
  refine wpCan_nil ?_
  go_upto_region 5 with (fail)
  have hs2 := (HS1.out.alloc #[.bool sep.t, .int .i64 sep.n, .string sep.s] tV).drew
  obtain ⟨W2, hW2, hs2⟩ := hs2.hide
  rw [← hW2]
  generalize w1.heap.size = bs at hs2 ⊢
  clear hW2 HS1 t0 t1 t2 t3 t4 tf k0 k1 k2 k3 kf s0 s1 s2
  obtain ⟨k0, k1, k2, k3, kf⟩ := hs2.node_cells HPK.out
  have hrk := hs2.keys_rd HPK.out
  dsimp only at k0 k1 k2 k3 hrk
  rw [HLF.out] at k0
  have hrk2 := rd_drop (m := M + 1) (off := (M + 1) * 3) Val.len hrk (by omega) (fun _ => rfl)
  rw [HYK.out] at hrk2
  have HRK := Lib.hid hrk2
  have HS2 := Lib.hid hs2
  clear hs2 hrk hrk2
  -- y.keys
  go_upto_region 10 with ((go_at_call 73; refine (clone_Val HRK.out HKO.out (by omega) HS2.out).mono ?_; rintro e3 w3 ⟨kv3, rfl, hs3⟩; obtain ⟨ko3, kc3, rfl⟩ := hs3.own_shape; obtain ⟨o0, o1, o2, o3, of⟩ := TreeS.node_cells (Sat.drop hs3) HPO.out; have HS3 := Lib.hid hs3; clear hs3))
  have hs4 := TreeS.put_keys HPO.out HS3.out
  obtain ⟨W4, hW4, hs4⟩ := hs4.hide
  rw [← hW4]
  have hpo4 := set_get_self (x := ((⟨.slice ko3 yk.length kc3, ovv, odv⟩, { freshM mk.leaf with keys := yk }) : NP)) HPO.out
  have hpk4 := set_get_ne (x := ((⟨.slice ko3 yk.length kc3, ovv, odv⟩, { freshM mk.leaf with keys := yk }) : NP)) hok HPK.out
  have hpi4 := set_get_ne (x := ((⟨.slice ko3 yk.length kc3, ovv, odv⟩, { freshM mk.leaf with keys := yk }) : NP)) hoi HPI.out
  have hmap4 : (ns1.set nw ((⟨.slice ko3 yk.length kc3, ovv, odv⟩, { freshM mk.leaf with keys := yk }) : NP)).map Prod.snd = T1.nodes.set nw { freshM mk.leaf with keys := yk } := by rw [List.map_set, hns1]
  generalize ns1.set nw ((⟨.slice ko3 yk.length kc3, ovv, odv⟩, { freshM mk.leaf with keys := yk }) : NP) = ns4 at hs4 hpo4 hpk4 hpi4 hmap4
  clear hW4 HS3 HS2 HPO HPK HPI k0 k1 k2 k3 kf o0 o1 o2 o3 of HRK HKO
  -- y.vals
  obtain ⟨k0, k1, k2, k3, kf⟩ := hs4.node_cells hpk4
  have hrv := hs4.kids_rd hpk4
  dsimp only at k0 k1 k2 k3 hrv
  have hrv2 := rd_drop (m := M + 1) (off := M + 1) nlen hrv (by omega) (fun _ => by omega)
  rw [HYV.out] at hrv2
  have HRV := Lib.hid hrv2
  have HS4 := Lib.hid hs4
  have HPO4 := Lib.hid hpo4
  have HPK4 := Lib.hid hpk4
  have HPI4 := Lib.hid hpi4
  have HMAP4 := Lib.hid hmap4
  clear hs4 hrv hrv2 hpo4 hpk4 hpi4 hmap4
  go_upto_region 11 with ((go_at_call 75; refine (clone_Int HRV.out HVO.out (by omega) HS4.out).mono ?_; rintro e5 w5 ⟨vv5, rfl, hs5⟩; obtain ⟨vo5, vc5, rfl⟩ := hs5.own_shape; obtain ⟨o0, o1, o2, o3, of⟩ := TreeS.node_cells (Sat.drop hs5) HPO4.out; have HS5 := Lib.hid hs5; clear hs5))
  have hs6 := TreeS.put_kids HPO4.out HS5.out
  obtain ⟨W6, hW6, hs6⟩ := hs6.hide
  rw [← hW6]
  have hpo6 := set_get_self (x := ((⟨.slice ko3 yk.length kc3, ovv, .slice vo5 yv.length vc5⟩, { freshM mk.leaf with keys := yk, kids := yv }) : NP)) HPO4.out
  have hpk6 := set_get_ne (x := ((⟨.slice ko3 yk.length kc3, ovv, .slice vo5 yv.length vc5⟩, { freshM mk.leaf with keys := yk, kids := yv }) : NP)) hok HPK4.out
  have hpi6 := set_get_ne (x := ((⟨.slice ko3 yk.length kc3, ovv, .slice vo5 yv.length vc5⟩, { freshM mk.leaf with keys := yk, kids := yv }) : NP)) hoi HPI4.out
  have hmap6 : (ns4.set nw ((⟨.slice ko3 yk.length kc3, ovv, .slice vo5 yv.length vc5⟩, { freshM mk.leaf with keys := yk, kids := yv }) : NP)).map Prod.snd = T1.nodes.set nw { freshM mk.leaf with keys := yk, kids := yv } := by rw [List.map_set, HMAP4.out, List.set_set]
  generalize ns4.set nw ((⟨.slice ko3 yk.length kc3, ovv, .slice vo5 yv.length vc5⟩, { freshM mk.leaf with keys := yk, kids := yv }) : NP) = ns6 at hs6 hpo6 hpk6 hpi6 hmap6
  clear hW6 HS5 HS4 HPO4 HPK4 HPI4 HMAP4 k0 k1 k2 k3 kf o0 o1 o2 o3 of HRV HVO
  -- x.vals
  obtain ⟨k0, k1, k2, k3, kf⟩ := hs6.node_cells hpk6
  dsimp only at k0 k1 k2 k3
  have hs7 := hs6.cut_kids (m := M + 1) hpk6 rfl (by show M + 1 ≤ mk.kids.length; rw [HL2.out]; exact hML2)
  have HS7 := Lib.hid hs7
  have HPO6 := Lib.hid hpo6
  have HPK6 := Lib.hid hpk6
  have HPI6 := Lib.hid hpi6
  have HMAP6 := Lib.hid hmap6
  clear hs6 hs7 hpo6 hpk6 hpi6 hmap6
  have hMM : (M : Int) + 1 ≤ (M : Int) + 1 := Int.le_refl _
  go_upto_region 12 with (fail)
  obtain ⟨W7, hW7, hs7⟩ := HS7.out.hide
  rw [← hW7]
  have hpk7 := set_get_self (x := ((⟨.slice (some ⟨kg, 0, none⟩) L kc, kvv, .slice (some ⟨vg, 0, none⟩) (M + 1) (M + 1)⟩, { mk with kids := mk.kids.take (M + 1) }) : NP)) HPK6.out
  have hpi7 := set_get_ne (x := ((⟨.slice (some ⟨kg, 0, none⟩) L kc, kvv, .slice (some ⟨vg, 0, none⟩) (M + 1) (M + 1)⟩, { mk with kids := mk.kids.take (M + 1) }) : NP)) (Ne.symm hik) HPI6.out
  have hmap7 : (ns6.set kid ((⟨.slice (some ⟨kg, 0, none⟩) L kc, kvv, .slice (some ⟨vg, 0, none⟩) (M + 1) (M + 1)⟩, { mk with kids := mk.kids.take (M + 1) }) : NP)).map Prod.snd = (T1.nodes.set nw { freshM mk.leaf with keys := yk, kids := yv }).set kid { mk with kids := mk.kids.take (M + 1) } := by rw [List.map_set, HMAP6.out]
  generalize ns6.set kid ((⟨.slice (some ⟨kg, 0, none⟩) L kc, kvv, .slice (some ⟨vg, 0, none⟩) (M + 1) (M + 1)⟩, { mk with kids := mk.kids.take (M + 1) }) : NP) = ns7 at hs7 hpk7 hpi7 hmap7
  clear hW7 HS7 HPO6 HPK6 HPI6 HMAP6 k0 k1 k2 k3 kf
  -- x.keys
  obtain ⟨k0, k1, k2, k3, kf⟩ := hs7.node_cells hpk7
  dsimp only at k0 k1 k2 k3
  have hs8 := hs7.cut_keys (m := M) hpk7 rfl (by show M ≤ mk.keys.length; rw [HL.out]; exact hML)
  have HS8 := Lib.hid hs8
  have HPK7 := Lib.hid hpk7
  have HPI7 := Lib.hid hpi7
  have HMAP7 := Lib.hid hmap7
  clear hs7 hs8 hpk7 hpi7 hmap7
  go_upto_region 13 with (fail)
  obtain ⟨W8, hW8, hs8⟩ := HS8.out.hide
  rw [← hW8]
  have hpi8 := set_get_ne (x := ((⟨.slice (some ⟨kg, 0, none⟩) M M, kvv, .slice (some ⟨vg, 0, none⟩) (M + 1) (M + 1)⟩, { mk with kids := mk.kids.take (M + 1), keys := mk.keys.take M }) : NP)) (Ne.symm hik) HPI7.out
  have hmap8 : (ns7.set kid ((⟨.slice (some ⟨kg, 0, none⟩) M M, kvv, .slice (some ⟨vg, 0, none⟩) (M + 1) (M + 1)⟩, { mk with kids := mk.kids.take (M + 1), keys := mk.keys.take M }) : NP)).map Prod.snd = (T1.nodes.set nw { freshM mk.leaf with keys := yk, kids := yv }).set kid { mk with kids := mk.kids.take (M + 1), keys := mk.keys.take M } := by rw [List.map_set, HMAP7.out, List.set_set]
  generalize ns7.set kid ((⟨.slice (some ⟨kg, 0, none⟩) M M, kvv, .slice (some ⟨vg, 0, none⟩) (M + 1) (M + 1)⟩, { mk with kids := mk.kids.take (M + 1), keys := mk.keys.take M }) : NP) = ns8 at hs8 hpi8 hmap8
  clear hW8 HS8 HPK7 HPI7 HMAP7 k0 k1 k2 k3 kf
  -- p.keys
  obtain ⟨t0, t1, t2, t3, t4, tf⟩ := hs8.tcells
  obtain ⟨n0, n1, n2, n3, nf⟩ := hs8.node_cells hpi8
  dsimp only at n0 n1 n2 n3
  obtain ⟨iko, ikc, hikv⟩ := (hs8.focus hpi8).own_shape
  dsimp only at hikv
  subst hikv
  obtain ⟨s0, s1, s2, sf⟩ := cells3 (Sat.blk hs8 4 rfl)
  have HS8 := Lib.hid hs8
  have HPI8 := Lib.hid hpi8
  have HMAP8 := Lib.hid hmap8
  clear hs8 hpi8 hmap8
  go_upto_region 14 with (fail)
  refine wp_region_canon [(0, false, 11), (1, false, 8), (2, false, 8), (3, false, 8), (4, false, 8), (5, false, 8), (6, false, 7), (7, true, 0), (8, true, 0), (9, false, 11), (10, false, 11), (11, true, 0)] (by kernel_rfl) (by kernel_rfl) ?_
  iterate 7 (refine wpCan_read rfl rfl (fun K hK => ?_); go_simp; refine hK _ ?_; clear hK K)
  refine wpCan_eff rfl ?_
  refine wpList_plain rfl (fun K hK => ?_)
  go_simp
  refine hK _ _ ?_
  clear hK K
  refine wpList_nil ?_
  have hs9 := (HS8.out.alloc #[.bool sep.t, .int .i64 sep.n, .string sep.s] tV).drew
  obtain ⟨W9, hW9, hs9⟩ := hs9.hide
  rw [← hW9]
  generalize W8.heap.size = bx at hs9 ⊢
  clear hW9 HS8 t0 t1 t2 t3 t4 tf n0 n1 n2 n3 nf s0 s1 s2 sf
  obtain ⟨n0, n1, n2, n3, nf⟩ := hs9.node_cells HPI8.out
  dsimp only at n0 n1 n2 n3
  obtain ⟨s0, s1, s2, sf⟩ := cells3 (Sat.blk hs9 5 rfl)
  have HS9 := Lib.hid (hs9.for_keys HPI8.out)
  clear hs9
  refine And.intro ?_ ?_
  · go_simp
  refine wpCan_eff rfl ?_
  refine wpList_do rfl (fun K hK => ?_)
  go_simp
  refine (insert_Val (i := c) hil (by rfl) (Val.one sep) bx (by omega) HS9.out).mono ?_
  rintro e10 w10 ⟨kv10, rfl, hs10⟩
  have hs10' := hs10.swap.drop
  dsimp only at hs10'
  rw [flat_insAt Val.len, ← insAt_len mi.keys c sep] at hs10'
  obtain ⟨kk, hkk⟩ : ∃ kk, insAt mi.keys c sep = kk := ⟨_, rfl⟩
  rw [hkk] at hs10'
  obtain ⟨ko10, kc10, rfl⟩ := hs10'.own_shape
  clear n0 n1 n2 n3 nf s0 s1 s2 sf HS9 hs10
  obtain ⟨n0, n1, n2, n3, nf⟩ := row_cells (hs10'.own 4 rfl) HPI8.out
  have HKK := Lib.hid hkk
  have HS10 := Lib.hid hs10'
  dsimp only at n0 n1 n2 n3
  clear hs10' hkk
  refine hK _ _ ?_
  clear hK K
  refine wpList_nil ?_
  refine And.intro ?_ ?_
  · go_simp
  iterate 2 (refine wpCan_read rfl rfl (fun K hK => ?_); go_simp; refine hK _ ?_; clear hK K)
  refine wpCan_eff rfl ?_
  refine wpList_plain rfl (fun K hK => ?_)
  go_simp
  refine hK _ _ ?_
  clear hK K
  refine wpList_nil ?_
  refine And.intro ?_ ?_
  · go_simp
  refine wpCan_nil ?_
  go_upto_region 15 with (fail)
  have hq11 := TreeS.set_keys HPI8.out HS10.out
  obtain ⟨W11, hW11, hs11⟩ := hq11.hide
  rw [← hW11]
  clear hq11
  have hpi11 := set_get_self (x := ((⟨.slice ko10 kk.length kc10, ivv, idv⟩, { mi with keys := kk }) : NP)) HPI8.out
  have hmap11 : (ns8.set i ((⟨.slice ko10 kk.length kc10, ivv, idv⟩, { mi with keys := kk }) : NP)).map Prod.snd = ((T1.nodes.set nw { freshM mk.leaf with keys := yk, kids := yv }).set kid { mk with kids := mk.kids.take (M + 1), keys := mk.keys.take M }).set i { mi with keys := kk } := by rw [List.map_set, HMAP8.out]
  dsimp only at hs11
  generalize ns8.set i ((⟨.slice ko10 kk.length kc10, ivv, idv⟩, { mi with keys := kk }) : NP) = ns11 at hs11 hpi11 hmap11
  clear hW11 HS10 HPI8 HMAP8 n0 n1 n2 n3 nf
  -- p.kids
  obtain ⟨n0, n1, n2, n3, nf⟩ := hs11.node_cells hpi11
  dsimp only at n0 n1 n2 n3
  obtain ⟨ido, idc, hidv⟩ := (hs11.focus hpi11).drop.drop.own_shape
  dsimp only at hidv
  subst hidv
  have hs12 := hs11.alloc #[.int .i64 nw] tI
  have HS12 := Lib.hid (hs12.for_kids hpi11)
  have HPI11 := Lib.hid hpi11
  have HMAP11 := Lib.hid hmap11
  have hwc : IntKind.i64.wrap ((c : Int) + 1) = (c : Int) + 1 := IntWalk.i64_in _ (by omega)
  have hcn : ((c : Int) + 1) = ((c + 1 : Nat) : Int) := rfl
  have HCN := Lib.hid hcn
  have HNW := Lib.hid (show ∀ u ∈ [Value.int .i64 nw], u.oneCell' = true by intro u hu; simp at hu; subst hu; rfl)
  clear hs11 hs12 hpi11 hmap11 hcn
  go_wp2_with ((go_at_call 76; rw [HCN.out]; refine (insert_Int (i := c + 1) (xc := [.int .i64 nw]) (by show c + 1 ≤ mi.kids.length; omega) (by rfl) HNW.out _ (by show (mi.kids.length + 1) * 8 ≤ _; omega) HS12.out).mono ?_; rintro e13 w13 ⟨dv13, rfl, hs13⟩; have hs13' := hs13.swap.drop; dsimp only at hs13'; obtain ⟨do13, dc13, rfl⟩ := hs13'.own_shape; clear n0 n1 n2 n3 nf; obtain ⟨n0, n1, n2, n3, nf⟩ := row_cells (hs13'.own 4 rfl) HPI11.out; dsimp only at n0 n1 n2 n3; have HS13 := Lib.hid hs13'; clear hs13 hs13'))
  go_end0
  have e := flat_insAt nlen mi.kids (c + 1) nw
  have h14 := HS13.out
  have h14' : Sat B D w13 (kidsP (.slice do13 (mi.kids.length + 1) dc13) (insAt mi.kids (c + 1) nw) :: keysP (.slice ko10 kk.length kc10) kk :: valsP ivv mi.vals :: blk t (treeCells (.slice (some ⟨g, 0, none⟩) N cn) fv1 T1.k) tT :: ownS tN 4 (.slice (some ⟨g, 0, none⟩) N cn) ns11.length (ns11.flatMap nodeCells) :: kidsP fv1 T1.free :: group ((ns11.map nodeP).eraseIdx i) :: blk bs #[.bool sep.t, .int .i64 sep.n, .string sep.s] tV :: l) := by
    unfold kidsP
    rw [insAt_len, ← e]
    exact h14
  have hs15 := TreeS.set_kids HPI11.out h14'
  refine ⟨rfl, _, _, _, ?_, hs15.drop⟩
  have ea : ({ freshM mk.leaf with keys := yk, kids := yv } : NodeM) = mk.hi := by
    unfold NodeM.hi freshM
    rw [HLF.out, ← HYK.out, ← HYV.out, HL.out, HM.out]
    rfl
  have eb : ({ mk with kids := mk.kids.take (M + 1), keys := mk.keys.take M } : NodeM) = mk.lo := by
    unfold NodeM.lo
    rw [HLF.out, HL.out, HM.out]
    rfl
  rw [List.map_set, HMAP11.out, List.set_set, ea, eb, ← HKK.out]
  rfl
end Go.Proofs.Ytcbklkcpjldcjaa
