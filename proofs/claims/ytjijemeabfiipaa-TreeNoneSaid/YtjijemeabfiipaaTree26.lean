/- TreeNone: a tree that is none has no keys; a key that may not be isn't taken. -/
import Derived.Test.YtjijemeabfiipaaTree25
namespace Go.Proofs.Ytjijemeabfiipaa
open Go.ChangeShapes Go.WideShapes Go.ChangeAt Go.RowKit
set_option maxRecDepth 100000
set_option linter.unusedSimpArgs false

theorem flat_ne {nodes : List NodeM} {d : Nat} : ∀ (cs : List Kid), (∀ c ∈ cs, Rep nodes d c.id c.L c.ids ∧ Fit nodes c.id) → cs.length ≤ (cs.flatMap Kid.L).length
  | [], _ => by simp
  | c :: cs, h => by
    have h1 := flat_ne cs (fun c' hc' => h c' (List.mem_cons_of_mem _ hc'))
    obtain ⟨hr, m, hm, hf, _⟩ := h c (List.mem_cons_self ..)
    have h2 := hr.some ⟨m, hm, by omega⟩
    have h3 : 0 < c.L.length := List.length_pos_iff.2 h2
    rw [List.length_cons, List.flatMap_cons, List.length_append]
    omega
theorem Good.single {T : TM} {k : Val} {v : VT} (h : Good T [(k, v)]) : ∃ r m, T.k.root = ((r : Nat) : Int) ∧ T.nodes[r]? = some m ∧ m.leaf = true ∧ m.keys = [k] ∧ m.vals = [v] ∧ T.k.depth = 1 ∧ T.k.many = 1 ∧ T.free.length ≤ T.nodes.length := by
  rcases h.rep with ⟨_, h2, _⟩ | ⟨r, d, ids, m, h1, h2, h3, h4, h5, h6, h7⟩
  · cases h2
  · have hfl : T.free.length ≤ T.nodes.length := by
      have e := h4.length_eq
      simp at e
      omega
    cases d with
    | zero =>
      obtain ⟨m', hm', g1, g2, g3, g4, g5⟩ := h3
      rw [h5] at hm'; cases hm'
      refine ⟨r, m, h1, h5, g1, ?_, ?_, by rw [h2]; rfl, h.many, hfl⟩
      · have := zip_keys g3
        rw [← g4] at this
        exact this.symm
      · have : (m.keys.zip m.vals).map Prod.snd = m.vals := List.map_snd_zip (by omega)
        rw [← g4] at this
        exact this.symm
    | succ d =>
      exfalso
      obtain ⟨m', hm', g1, g2, cs, g3, g4, g5, g6, g7, g8, g9⟩ := h3
      rw [h5] at hm'; cases hm'
      rw [g1] at h6
      have e1 := flat_ne cs g5
      rw [← g8] at e1
      unfold NodeM.size at h6
      rw [g1, g3, List.length_map] at h6
      simp at h6 e1
      omega
theorem bs_one (k : Val) : bsAt [k] k = 0 ∧ bsIs [k] k = true := by
  have h1 : bsAt [k] k = 0 := by
    have hs : SortedK [k] := by simp
    have := bsAt_spec k hs 0 k rfl
    rw [cmp_self] at this
    have : ¬ 0 < bsAt [k] k := fun h => by have := this.1 h; omega
    omega
  exact ⟨h1, (bsIs_spec (ks := [k]) k).2 ⟨k, by rw [h1]; rfl, cmp_self k⟩⟩
theorem hasK_one (k : Val) (v : VT) : hasK [(k, v)] k = true := by simp [hasK, cmp_self]
theorem insL_one (k : Val) (v : VT) : insL [(k, v)] k v = [(k, v)] := by simp [insL, cmp_self]
theorem TreeA.nil_of {B w : World} {D : PH} {t : Nat} {T : TM} {l : List HP} (h : TreeA B D w t T l) (hr : T.k.root < 0) : NilT w (.pointer (some ⟨t, 0, none⟩)) := by
  obtain ⟨nv, fv, ns, hns, hs⟩ := h
  exact .inr ⟨t, _, rfl, hs.tcells.2.2.1, hr⟩
def spn0 : Spn := ⟨false, false, false, default, false, false, default⟩

set_option maxHeartbeats 4000000 in
theorem none_ok {w : World} (k : Val) (v : Int) :
    Calls Try.prog 9 #[k.v, .int .i64 v] w fun e w' => e = .returned (.bool true) ∧ Kept (fun _ => False) w w' := by
  obtain ⟨wa, hwa⟩ : ∃ wa, wa = w.alloc (.cells #[.bool k.t, .int .i64 k.n, .string k.s] tV) := ⟨_, rfl⟩
  have hk1 : Kept (fun _ => False) w wa := by rw [hwa]; exact (Kept.refl _ _).alloc _
  have hb1 : wa.heap[w.heap.size]? = some (.cells #[.bool k.t, .int .i64 k.n, .string k.s] tV (0, 0)) := by rw [hwa]; exact heap_alloc_self w _
  have HK := Lib.hid hk1
  have HB := Lib.hid hb1
  have HWA := Lib.hid hwa
  clear hk1 hb1 hwa
  dsimp only [Val.v]
  go_enter Try.func9, Try.ntmps9
  go_upto_region 1 with (fail)
  rw [← HWA.out]
  clear HWA
  revert HB
  generalize w.heap.size = bk
  intro HB
  go_upto_region 5 with ((go_at_call 10; refine (awake_ok _).mono ?_; rintro e1 w1 ⟨rfl, hk1⟩; have HK1 := Lib.hid hk1; clear hk1))
  obtain ⟨x0, x1, x2, xf⟩ := cells3 ((HK1.out.block _ (lt_of_heap HB.out) (fun h => h)).trans HB.out)
  go_upto_region 6 with ((go_at_call 24; refine (Get_none (k := k) (.inl rfl)).mono ?_; rintro e2 w2 ⟨rfl, hk2⟩; have HK2 := Lib.hid (HK1.out.trans hk2 (fun _ h => h.elim)); clear hk2 x0 x1 x2 xf))
  obtain ⟨x0, x1, x2, xf⟩ := cells3 ((HK2.out.block _ (lt_of_heap HB.out) (fun h => h)).trans HB.out)
  go_upto_region 8 with (first | (go_at_call 12; refine (Put_nil (k := k)).mono ?_; rintro e3 w3 ⟨rfl, hk3⟩; have HK3 := Lib.hid (HK2.out.trans hk3 (fun _ h => h.elim)); clear hk3 x0 x1 x2 xf; obtain ⟨x0, x1, x2, xf⟩ := cells3 ((HK3.out.block _ (lt_of_heap HB.out) (fun h => h)).trans HB.out)) | (go_at_call 18; refine (Delete_none (k := k) (.inl rfl)).mono ?_; rintro e4 w4 ⟨rfl, hk4⟩; have HK4 := Lib.hid (HK3.out.trans hk4 (fun _ h => h.elim)); clear hk4 x0 x1 x2 xf) | (go_at_call 20; refine Len_nil.mono ?_; rintro e5 w5 ⟨rfl, rfl⟩) | (go_at_call 21; refine Depth_nil.mono ?_; rintro e5 w5 ⟨rfl, rfl⟩) | (go_at_call 22; refine Used_nil.mono ?_; rintro e5 w5 ⟨rfl, rfl⟩) | (go_at_call 23; refine Room_nil.mono ?_; rintro e5 w5 ⟨rfl, rfl⟩) | (go_at_call 13; refine (pairs_nil (s := spn0)).mono ?_; rintro e6 w6 ⟨⟨ao, cap, rfl⟩, hk6⟩; have HK6 := Lib.hid (HK4.out.trans hk6 (fun _ h => h.elim)); clear hk6))
  have HS6 := Lib.hid ((Sat.start wa).kept HK6.out)
  cases hr : valRight k
  · have HR := Lib.hid hr
    clear hr
    go_upto_region 9 with ((go_at_call 11; refine (New_ok HS6.out).mono ?_; rintro e7 w7 ⟨t, rfl, ha⟩; have HA := Lib.hid ha; clear ha))
    obtain ⟨x0, x1, x2, xf⟩ := cells3 (((HA.out.end_ (PH.le.refl _)).block _ (lt_of_heap HB.out) (fun h => h)).trans HB.out)
    go_upto_region 10 with ((go_at_call 26; refine (rright_ok k _).mono ?_; rw [HR.out]; rintro e8 w8 ⟨rfl, hk8⟩; have HA8 := Lib.hid (HA.out.kept hk8); clear hk8 x0 x1 x2 xf))
    obtain ⟨x0, x1, x2, xf⟩ := cells3 (((HA8.out.end_ (PH.le.refl _)).block _ (lt_of_heap HB.out) (fun h => h)).trans HB.out)
    go_upto_region 11 with ((go_at_call 12; refine (Put_bad HR.out (.inr ⟨t, rfl⟩)).mono ?_; rintro e9 w9 ⟨rfl, hk9⟩; have HA9 := Lib.hid (HA8.out.kept hk9); clear hk9 x0 x1 x2 xf))
    obtain ⟨x0, x1, x2, xf⟩ := cells3 (((HA9.out.end_ (PH.le.refl _)).block _ (lt_of_heap HB.out) (fun h => h)).trans HB.out)
    go_wp2_with (first | (go_at_call 24; refine (Get_none (k := k) (HA9.out.nil_of (by decide))).mono ?_; rintro e10 w10 ⟨rfl, hk10⟩; have HA10 := Lib.hid (HA9.out.kept hk10); clear hk10 x0 x1 x2 xf) | (go_at_call 20; refine (Len_ok HA10.out).mono ?_; rintro e11 w11 ⟨rfl, rfl⟩; rw [show TM.empty.k.many = 0 from rfl]))
    go_ret
    exact ⟨rfl, HK.out.trans (HA10.out.end_ (PH.le.refl _)) (fun _ h => h.elim)⟩
  · have HR := Lib.hid hr
    have HPL := Lib.hid (show putL [] k v = [(k, v)] ∧ putB [] k = true ∧ putL [(k, v)] k v = [(k, v)] ∧ putB [(k, v)] k = false by
      unfold putL putB
      rw [hr, hasK_one, insL_one]
      exact ⟨rfl, rfl, rfl, rfl⟩)
    clear hr
    go_upto_region 9 with ((go_at_call 11; refine (New_ok HS6.out).mono ?_; rintro e7 w7 ⟨t, rfl, ha⟩; have HA := Lib.hid ha; clear ha))
    obtain ⟨x0, x1, x2, xf⟩ := cells3 (((HA.out.end_ (PH.le.refl _)).block _ (lt_of_heap HB.out) (fun h => h)).trans HB.out)
    go_upto_region 10 with ((go_at_call 26; refine (rright_ok k _).mono ?_; rw [HR.out]; rintro e8 w8 ⟨rfl, hk8⟩; have HA8 := Lib.hid (HA.out.kept hk8); clear hk8 x0 x1 x2 xf))
    obtain ⟨x0, x1, x2, xf⟩ := cells3 (((HA8.out.end_ (PH.le.refl _)).block _ (lt_of_heap HB.out) (fun h => h)).trans HB.out)
    go_upto_region 11 with ((go_at_call 12; refine (Put_ok k v good_empty small_empty (by omega) HA8.out).mono ?_; rw [HPL.out.2.1, HPL.out.1]; rintro e9 w9 ⟨T1, rfl, ha9, hn9⟩; have HA9 := Lib.hid ha9; have HN9 := Lib.hid hn9; clear ha9 hn9 x0 x1 x2 xf))
    obtain ⟨x0, x1, x2, xf⟩ := cells3 (((HA9.out.end_ (PH.le.refl _)).block _ (lt_of_heap HB.out) (fun h => h)).trans HB.out)
    obtain ⟨r, m, hroot, hm, hl, hks, hvs, hdep, hmany, hfl⟩ := HN9.out.good.single
    have HGT := Lib.hid (Get_at (k := k) hroot (.leaf hm hl) hm (by rw [hks]; simp) (by rw [hks, hvs]; rfl) HA9.out)
    have hgv : m.get k = v ∧ m.has k = true := by
      unfold NodeM.get NodeM.has
      rw [HR.out, hks, (bs_one k).1, (bs_one k).2, hvs]
      exact ⟨rfl, rfl⟩
    rw [hgv.1, hgv.2] at HGT
    clear hgv hroot hm hl hks hvs hdep hmany hfl
    go_upto_region 12 with ((go_at_call 24; refine HGT.out.mono ?_; rintro e10 w10 ⟨rfl, hk10⟩; have HA10 := Lib.hid (HA9.out.kept hk10); clear hk10 x0 x1 x2 xf HGT))
    obtain ⟨x0, x1, x2, xf⟩ := cells3 (((HA10.out.end_ (PH.le.refl _)).block _ (lt_of_heap HB.out) (fun h => h)).trans HB.out)
    go_wp2_with (first | (go_at_call 12; refine (Put_ok k v HN9.out.good (HN9.out.small small_empty) (by omega) HA10.out).mono ?_; rw [HPL.out.2.2.2, HPL.out.2.2.1]; rintro e11 w11 ⟨T2, rfl, ha11, hn11⟩; have HA11 := Lib.hid ha11; have HN11 := Lib.hid hn11; clear ha11 hn11 x0 x1 x2 xf; obtain ⟨x0, x1, x2, xf⟩ := cells3 (((HA11.out.end_ (PH.le.refl _)).block _ (lt_of_heap HB.out) (fun h => h)).trans HB.out)) | go_at_call 18; fail)
    obtain ⟨r, m, hroot, hm, hl, hks, hvs, hdep, hmany, hfl⟩ := HN11.out.good.single
    obtain ⟨b1, b2, b3⟩ := (HN11.out.small (HN9.out.small small_empty)).bound (by omega)
    have hrem : ∀ (w : World) (l : List HP), TreeA wa (heapOf wa) w t T2 l → Calls Try.prog 37 #[.pointer (some ⟨t, 0, none⟩), .int .i64 r, k.v] w fun e w' => e = .returned (.bool true) ∧ TreeA wa (heapOf wa) w' t { T2 with nodes := T2.nodes.set r { m with keys := delAt m.keys (bsAt m.keys k), vals := delAt m.vals (bsAt m.keys k) } } l :=
      fun w l ha => remove_found hm hl (by rw [hks]; simp) (by rw [hks, hvs]; rfl) (by rw [hks]; exact (bs_one k).2) ha
    have hlt := (List.getElem?_eq_some_iff.1 hm).1
    obtain ⟨TX, hTX⟩ : ∃ TX : TM, TX = { T2 with nodes := T2.nodes.set r { m with keys := delAt m.keys (bsAt m.keys k), vals := delAt m.vals (bsAt m.keys k) } } := ⟨_, rfl⟩
    rw [← hTX] at hrem
    have hxk : TX.k = T2.k := by rw [hTX]
    have hxm : TX.nodes[r]? = some { m with keys := delAt m.keys (bsAt m.keys k), vals := delAt m.vals (bsAt m.keys k) } := by rw [hTX]; dsimp only; rw [List.getElem?_set_self hlt]
    have hxl : TX.nodes.length = T2.nodes.length := by rw [hTX]; dsimp only; rw [List.length_set]
    have hxf : TX.free = T2.free := by rw [hTX]
    have HDEL := Lib.hid (Delete_last HR.out hrem hroot hxk ⟨by omega, by omega, by omega, by omega⟩ hxm (by omega) (by rw [hxf]; omega) hl hmany HA11.out)
    have hdp : (TX.drop1 (-1) r).k.depth = 0 := by show TX.k.depth - 1 = 0; rw [hxk]; omega
    have hrt : (TX.drop1 (-1) r).k.root < 0 := by show (-1 : Int) < 0; omega
    have HDP := Lib.hid hdp
    have HRT := Lib.hid hrt
    clear hdp hrt
    generalize TX.drop1 (-1) r = T3 at HDEL HDP HRT
    clear hTX hxk hxm hxl hxf
    clear hrem hroot hm hl hks hvs hdep hmany hfl b1 b2 b3
    refine HDEL.out.mono ?_
    rintro e12 w12 ⟨rfl, ha12⟩
    have HA12 := Lib.hid ha12
    clear ha12 x0 x1 x2 xf HDEL
    obtain ⟨x0, x1, x2, xf⟩ := cells3 (((HA12.out.end_ (PH.le.refl _)).block _ (lt_of_heap HB.out) (fun h => h)).trans HB.out)
    go_wp2_with (first | (go_at_call 18; refine (Delete_none (k := k) (HA12.out.nil_of HRT.out)).mono ?_; rintro e13 w13 ⟨rfl, hk13⟩; have HA13 := Lib.hid (HA12.out.kept hk13); clear hk13 x0 x1 x2 xf) | (go_at_call 21; refine (Depth_ok HA13.out).mono ?_; rintro e14 w14 ⟨rfl, rfl⟩; rw [HDP.out]))
    go_ret
    exact ⟨rfl, HK.out.trans (HA13.out.end_ (PH.le.refl _)) (fun _ h => h.elim)⟩
end Go.Proofs.Ytjijemeabfiipaa
