/- Joined texts: The tree: pairs of a tree that is none. TreeNone: a tree that is none has no keys; a key that may not be isn't taken. The tree: a node's rows, inserted into and deleted from, up to the store (printed by gen27.py). The tree: three nodes of a tree, side by side. The tree: a node's rows, appended to, up to the store (printed by gen30.py). -/
import Derived.Test.YtjijemeabfiipaaJ14
/- The tree: pairs of a tree that is none. -/
namespace Go.Proofs.Ytjijemeabfiipaa
open Go.ChangeShapes Go.WideShapes Go.ChangeAt Go.RowKit
set_option maxRecDepth 100000
set_option linter.unusedSimpArgs false
attribute [local go_sem] Oper.semAt_some

theorem range1_nil {Ow : World → Nat → Prop} {n₀ : Nat} {l b1 b2 : Nat} {s : Spn} {D : PH} (h1 : D b1 = some (.cells #[.pointer none] 28 (0, 0))) (h2 : D b2 = some (.cells s.cells tS (0, 0))) (W : World) (hit : ItOk n₀ Ow D W) :
    Calls Try.prog 32 #[.func (.yield l) #[] #[], .pointer (some ⟨b1, 0, none⟩), .pointer (some ⟨b2, 0, none⟩)] W fun e W' => (∃ v, e = .returned v) ∧ W = W' := by
  obtain ⟨p0, pf⟩ := cells1 (hit.le _ _ h1)
  obtain ⟨s0, s1, s2, s3, s4, s5, s6, s7, s8, s9, s10⟩ := Spn.at (s := s) (hit.le _ _ h2)
  clear hit h1 h2
  go_enter Try.func32, Try.ntmps32
  go_wp2_with (fail)
  go_end0
  exact ⟨⟨_, rfl⟩, rfl⟩
theorem range_nil {n₀ : Nat} {Ow : World → Nat → Prop} (_ : Owner n₀ Ow) {b1 b2 : Nat} {s : Spn} {D : PH} {w : World} (n : Nat)
    (h1 : D b1 = some (.cells #[.pointer none] 28 (0, 0))) (h2 : D b2 = some (.cells s.cells tS (0, 0))) (hit : ∀ W, Below w.heap.size w W → ItOk n₀ Ow D W) :
    SeqStopsK Fence.wide n Try.prog 32 #[.pointer (some ⟨b1, 0, none⟩), .pointer (some ⟨b2, 0, none⟩)] (fun x : Val × VT => #[x.1.v, .int .i64 x.2]) (KpO Ow) (fun xs => xs = []) (fun _ => False) 0 w := fun _ _ _ W hW _ _ _ h0 =>
  callsIn_wide.2 ((range1_nil h1 h2 W (hit W hW)).mono (fun _ _ ⟨h3, h4⟩ => ⟨h3, .inl ⟨[], rfl, h4 ▸ h0⟩⟩))

set_option maxHeartbeats 2000000 in
theorem pairs_nil {w : World} {s : Spn} :
    Calls Try.prog 13 #[.pointer none, s.v] w fun e w' => (∃ ao cap, e = .returned (.slice ao 0 cap)) ∧ Kept (fun _ => False) w w' := by
  have hk1 : Kept (fun _ => False) w (w.alloc (.cells s.cells tS)) := (Kept.refl _ _).alloc _
  have hb1 : (w.alloc (.cells s.cells tS)).heap[w.heap.size]? = some (.cells s.cells tS (0, 0)) := heap_alloc_self w _
  have HA1 := Lib.hid hk1
  have HB1 := Lib.hid hb1
  clear hk1 hb1
  dsimp only [Spn.v]
  refine (callsIn_wide (n := 6)).1 (callsIn_of_wp_marks Try.func13 rfl trivial ?_ rfl)
  simp only [Try.ntmps13, List.size_toArray, List.length_cons, List.length_nil, Nat.reduceAdd, Nat.reduceSub, Array.replicate_succ, Array.replicate_zero, List.push_toArray, List.append_toArray, List.nil_append, List.cons_append]
  refine wpIn_wide.2 ?_
  go_upto_region 2 with (fail)
  obtain ⟨wa, hwa⟩ : ∃ wa, wa = w.alloc (.cells s.cells tS) := ⟨_, rfl⟩
  rw [← hwa] at HA1 HB1
  dsimp only [Spn.cells] at hwa
  rw [← hwa]
  have hsz : w.heap.size + 1 = wa.heap.size := by rw [hwa]; simp
  rw [hsz]
  obtain ⟨W1, hW1⟩ : ∃ W1, W1 = wa.alloc (.cells #[.slice none 0 0] tPs) := ⟨_, rfl⟩
  rw [← hW1]
  have hk1 : Kept (fun _ => False) wa W1 := by rw [hW1]; exact (Kept.refl _ _).alloc _
  have hb1 : W1.heap[wa.heap.size]? = some (.cells #[.slice none 0 0] tPs (0, 0)) := by rw [hW1]; exact heap_alloc_self _ _
  have hs1 : W1.heap[w.heap.size]? = some (.cells s.cells tS (0, 0)) := (hk1.block _ (lt_of_heap HB1.out) (fun h => h)).trans HB1.out
  have HK1 := Lib.hid hk1
  have HB2 := Lib.hid hb1
  have HSP := Lib.hid hs1
  obtain ⟨s0, s1, s2, s3, s4, s5, s6, s7, s8, s9, s10⟩ := Spn.at (s := s) hs1
  have hbo : wa.heap.size ≤ wa.heap.size := Nat.le_refl _
  generalize w.heap.size = bs at HB1 HSP s0 s1 s2 s3 s4 s5 s6 s7 s8 s9 s10 ⊢
  clear hwa hW1 hk1 hb1 hs1 hsz
  have HBO := Lib.hid hbo
  revert HBO HB2
  generalize hbz : wa.heap.size = bo
  intro HB2 HBO
  have HBZ := Lib.hid hbz
  clear hbo hbz
  go_upto_region 4 with ((go_at_call 14; refine (range_ok _ s _).mono ?_; rintro e2 w2 ⟨b1, b2, rfl, hk2, -⟩; have HK2 := Lib.hid hk2; clear s0 s1 s2 s3 s4 s5 s6 s7 s8 s9 s10 hk2))
  have hs2 : w2.heap[bs]? = some (.cells s.cells tS (0, 0)) := (HK2.out.block _ (lt_of_heap HSP.out) (fun h => h)).trans HSP.out
  obtain ⟨s0, s1, s2, s3, s4, s5, s6, s7, s8, s9, s10⟩ := Spn.at (s := s) hs2
  clear hs2
  go_wp2_with ((go_at_call 14; refine (range_ok _ s _).mono ?_; rintro e3 w3 ⟨c1, c2, rfl, hk3, hc1, hc2, hn1, hn2⟩; have HK3 := Lib.hid (HK2.out.trans hk3 (fun _ h => h.elim)); have HC1 := Lib.hid hc1; have HC2 := Lib.hid hc2; have HN := Lib.hid (And.intro hn1 hn2); clear s0 s1 s2 s3 s4 s5 s6 s7 s8 s9 s10 hk3 hc1 hc2 hn1 hn2))
  have hk13 := HK1.out.trans HK3.out (fun _ h => h.elim)
  have hb3 : w3.heap[bo]? = some (.cells #[.slice none 0 0] tPs (0, 0)) := (HK3.out.block _ (lt_of_heap HB2.out) (fun h => h)).trans HB2.out
  have hbo1 := lt_of_heap HB2.out
  have hbr : BoxRow w3 bo tPs tP 4 (.slice none 0 0) 0 [] := ⟨hb3, Own.nil _ _ _, fun h => by cases h⟩
  have hnot : ∀ k, OwB bo w3 k → k = bo := fun k hk => (hbr.ow hk).elim (fun h => h) (fun h => by cases h)
  obtain ⟨E, hE1, hE2⟩ := hbr.iter
  have h12 := HN.out
  have hks2 := HK2.out.size
  refine (wpIn_wide (n := 5)).1 ?_
  refine wpIn_rangeFunc_ownH (n := 5) rfl (by omega) (gf := 32) (lb := #[.pointer (some ⟨c1, 0, none⟩), .pointer (some ⟨c2, 0, none⟩)]) rfl trivial (enters_of Try.func32 (by kernel_rfl) rfl)
    (range_nil (s := s) (D := E) (ownerB (lt_of_heap hb3)) 4 (hE1 _ _ _ _ HC1.out (fun h => by have := hnot _ h; omega)) (hE1 _ _ _ _ HC2.out (fun h => by have := hnot _ h; omega)) hE2)
    (fun h k => KpO.trans h k) (fun W l o o' hl h hc _ => KpO.put (ownerB (lt_of_heap hb3)) hl h hc) (Below.refl _ _) (fun _ => rfl)
    (Inv wa bo tPs tP 4 pcells) (fun _ _ _ => False) (Inv.ownFrom hk13.size (lt_of_heap hb3)) (fun _ _ _ _ _ h _ _ => h) (Inv.start hk13 hb3 (by have := HBZ.out; omega))
    (fun x a' W => ∃ bk, W.heap[bk]? = some (.cells #[.bool x.1.t, .int .i64 x.1.n, .string x.1.s] tV (0, 0)) ∧ a' = { tmps := #[.pointer none, s.v, undef, .pointer (some ⟨bs, 0, none⟩), .slice none 0 0, .pointer (some ⟨bo, 0, none⟩), .pointer (some ⟨bk, 0, none⟩), .int .i64 x.2, .pointer none, s.v, rngV b1 b2, .bool false, undef, .pointer none, s.v, rngV c1 c2, x.1.v, .int .i64 x.2, undef, undef, undef, undef, undef, undef, undef], defers := [] })
    (fun x a' _ W W' row ⟨bk, h1, h2⟩ hg hr => ⟨bk, box_ownFrom h1 hg hr, h2⟩) ?assign ?body ?done ?stop
  case assign =>
    rintro l pre x W K hi hK
    obtain ⟨v, hbr⟩ := hi.row
    have hal : Kept (fun _ => False) W (W.alloc (.cells #[.bool x.1.t, .int .i64 x.1.n, .string x.1.s] tV)) := (Kept.refl _ _).alloc _
    have H := Lib.hid (hK _ _ (keepsFrom_kept hal _) (KpO.of_kept (ownerB (n₀ := bo + 1) (by omega)) (lt_of_heap hbr.box) hal) (hi.frame hal) ⟨W.heap.size, heap_alloc_self _ _, rfl⟩)
    clear hK
    gi_wp2
    exact H.out
  case body =>
    rintro l pre x a' W hl hr hi hx hlt
    exact absurd hlt (Nat.not_lt_zero _)
  case done =>
    rintro D1 xs W hD rfl hi hK
    have hi2 := Inv.ownFrom hk13.size (lt_of_heap hb3) [] W (W.putObj D1 (.deferred none)) (some D1) hi (grownBy_putObj' W D1 _) (fun r e => by cases e; exact ⟨hD, _, hK, rfl⟩)
    obtain ⟨v, hbr2⟩ := hi.row
    obtain ⟨v', hbr3⟩ := hi2.row
    obtain ⟨o0, of⟩ := cells1 hbr2.box
    have hvv : v' = v := by
      have h1 := hbr3.box
      rw [World.putObj_heap_other (show bo ≠ D1 by have := lt_of_heap hb3; omega), hbr2.box] at h1
      cases h1
      rfl
    subst hvv
    obtain ⟨ao, cap, rfl, _⟩ := hbr3.own.rd.2.2
    dsimp only [List.length_nil] at o0
    have HF := Lib.hid (HA1.out.trans hi2.kept (fun _ h => h.elim))
    clear hi hi2 hbr2 hbr3 hbr
    go_wp2_with (fail)
    refine ⟨by simp, .inl ⟨_, _, rfl, run_takeDeferred hK, ?_⟩⟩
    exact ⟨_, results_tmp rfl _ _ _, ⟨ao, cap, rfl⟩, HF.out⟩
  case stop =>
    rintro D c pre W _ _ h _
    exact h.elim
end Go.Proofs.Ytjijemeabfiipaa

/- TreeNone: a tree that is none has no keys; a key that may not be isn't taken. -/
namespace Go.Proofs.Ytjijemeabfiipaa
open Go.ChangeShapes Go.WideShapes Go.ChangeAt Go.RowKit
set_option maxRecDepth 100000
set_option linter.unusedSimpArgs false

theorem flat_ne {nodes : List NodeM} {d : Nat} : ∀ (cs : List Kid), (∀ c ∈ cs, Rep nodes d c.id c.L c.ids ∧ Fit nodes c.id) → cs.length ≤ (cs.flatMap Kid.L).length
  | [], _ => by simp
  | c :: cs, h => by
    have h1 := flat_ne cs (fun c' hc' => h c' (List.mem_cons_of_mem _ hc'))
    obtain ⟨hr, m, hm, hf, _⟩ := h c (List.mem_cons_self ..)
    have h2 := hr.some ⟨m, hm, by omega⟩
    have h3 : 0 < c.L.length := List.length_pos_iff.2 h2
    rw [List.length_cons, List.flatMap_cons, List.length_append]
    omega
theorem Good.single {T : TM} {k : Val} {v : VT} (h : Good T [(k, v)]) : ∃ r m, T.k.root = ((r : Nat) : Int) ∧ T.nodes[r]? = some m ∧ m.leaf = true ∧ m.keys = [k] ∧ m.vals = [v] ∧ T.k.depth = 1 ∧ T.k.many = 1 ∧ T.free.length ≤ T.nodes.length := by
  rcases h.rep with ⟨_, h2, _⟩ | ⟨r, d, ids, m, h1, h2, h3, h4, h5, h6, h7⟩
  · cases h2
  · have hfl : T.free.length ≤ T.nodes.length := by
      have e := h4.length_eq
      simp at e
      omega
    cases d with
    | zero =>
      obtain ⟨m', hm', g1, g2, g3, g4, g5⟩ := h3
      rw [h5] at hm'; cases hm'
      refine ⟨r, m, h1, h5, g1, ?_, ?_, by rw [h2]; rfl, h.many, hfl⟩
      · have := zip_keys g3
        rw [← g4] at this
        exact this.symm
      · have : (m.keys.zip m.vals).map Prod.snd = m.vals := List.map_snd_zip (by omega)
        rw [← g4] at this
        exact this.symm
    | succ d =>
      exfalso
      obtain ⟨m', hm', g1, g2, cs, g3, g4, g5, g6, g7, g8, g9⟩ := h3
      rw [h5] at hm'; cases hm'
      rw [g1] at h6
      have e1 := flat_ne cs g5
      rw [← g8] at e1
      unfold NodeM.size at h6
      rw [g1, g3, List.length_map] at h6
      simp at h6 e1
      omega
theorem bs_one (k : Val) : bsAt [k] k = 0 ∧ bsIs [k] k = true := by
  have h1 : bsAt [k] k = 0 := by
    have hs : SortedK [k] := by simp
    have := bsAt_spec k hs 0 k rfl
    rw [cmp_self] at this
    have : ¬ 0 < bsAt [k] k := fun h => by have := this.1 h; omega
    omega
  exact ⟨h1, (bsIs_spec (ks := [k]) k).2 ⟨k, by rw [h1]; rfl, cmp_self k⟩⟩
theorem hasK_one (k : Val) (v : VT) : hasK [(k, v)] k = true := by simp [hasK, cmp_self]
theorem insL_one (k : Val) (v : VT) : insL [(k, v)] k v = [(k, v)] := by simp [insL, cmp_self]
theorem TreeA.nil_of {B w : World} {D : PH} {t : Nat} {T : TM} {l : List HP} (h : TreeA B D w t T l) (hr : T.k.root < 0) : NilT w (.pointer (some ⟨t, 0, none⟩)) := by
  obtain ⟨nv, fv, ns, hns, hs⟩ := h
  exact .inr ⟨t, _, rfl, hs.tcells.2.2.1, hr⟩
def spn0 : Spn := ⟨false, false, false, default, false, false, default⟩

set_option maxHeartbeats 4000000 in
theorem none_ok {w : World} (k : Val) (v : Int) :
    Calls Try.prog 9 #[k.v, .int .i64 v] w fun e w' => e = .returned (.bool true) ∧ Kept (fun _ => False) w w' := by
  obtain ⟨wa, hwa⟩ : ∃ wa, wa = w.alloc (.cells #[.bool k.t, .int .i64 k.n, .string k.s] tV) := ⟨_, rfl⟩
  have hk1 : Kept (fun _ => False) w wa := by rw [hwa]; exact (Kept.refl _ _).alloc _
  have hb1 : wa.heap[w.heap.size]? = some (.cells #[.bool k.t, .int .i64 k.n, .string k.s] tV (0, 0)) := by rw [hwa]; exact heap_alloc_self w _
  have HK := Lib.hid hk1
  have HB := Lib.hid hb1
  have HWA := Lib.hid hwa
  clear hk1 hb1 hwa
  dsimp only [Val.v]
  go_enter Try.func9, Try.ntmps9
  go_upto_region 1 with (fail)
  rw [← HWA.out]
  clear HWA
  revert HB
  generalize w.heap.size = bk
  intro HB
  go_upto_region 5 with ((go_at_call 10; refine (awake_ok _).mono ?_; rintro e1 w1 ⟨rfl, hk1⟩; have HK1 := Lib.hid hk1; clear hk1))
  obtain ⟨x0, x1, x2, xf⟩ := cells3 ((HK1.out.block _ (lt_of_heap HB.out) (fun h => h)).trans HB.out)
  go_upto_region 6 with ((go_at_call 24; refine (Get_none (k := k) (.inl rfl)).mono ?_; rintro e2 w2 ⟨rfl, hk2⟩; have HK2 := Lib.hid (HK1.out.trans hk2 (fun _ h => h.elim)); clear hk2 x0 x1 x2 xf))
  obtain ⟨x0, x1, x2, xf⟩ := cells3 ((HK2.out.block _ (lt_of_heap HB.out) (fun h => h)).trans HB.out)
  go_upto_region 8 with (first | (go_at_call 12; refine (Put_nil (k := k)).mono ?_; rintro e3 w3 ⟨rfl, hk3⟩; have HK3 := Lib.hid (HK2.out.trans hk3 (fun _ h => h.elim)); clear hk3 x0 x1 x2 xf; obtain ⟨x0, x1, x2, xf⟩ := cells3 ((HK3.out.block _ (lt_of_heap HB.out) (fun h => h)).trans HB.out)) | (go_at_call 18; refine (Delete_none (k := k) (.inl rfl)).mono ?_; rintro e4 w4 ⟨rfl, hk4⟩; have HK4 := Lib.hid (HK3.out.trans hk4 (fun _ h => h.elim)); clear hk4 x0 x1 x2 xf) | (go_at_call 20; refine Len_nil.mono ?_; rintro e5 w5 ⟨rfl, rfl⟩) | (go_at_call 21; refine Depth_nil.mono ?_; rintro e5 w5 ⟨rfl, rfl⟩) | (go_at_call 22; refine Used_nil.mono ?_; rintro e5 w5 ⟨rfl, rfl⟩) | (go_at_call 23; refine Room_nil.mono ?_; rintro e5 w5 ⟨rfl, rfl⟩) | (go_at_call 13; refine (pairs_nil (s := spn0)).mono ?_; rintro e6 w6 ⟨⟨ao, cap, rfl⟩, hk6⟩; have HK6 := Lib.hid (HK4.out.trans hk6 (fun _ h => h.elim)); clear hk6))
  have HS6 := Lib.hid ((Sat.start wa).kept HK6.out)
  cases hr : valRight k
  · have HR := Lib.hid hr
    clear hr
    go_upto_region 9 with ((go_at_call 11; refine (New_ok HS6.out).mono ?_; rintro e7 w7 ⟨t, rfl, ha⟩; have HA := Lib.hid ha; clear ha))
    obtain ⟨x0, x1, x2, xf⟩ := cells3 (((HA.out.end_ (PH.le.refl _)).block _ (lt_of_heap HB.out) (fun h => h)).trans HB.out)
    go_upto_region 10 with ((go_at_call 26; refine (rright_ok k _).mono ?_; rw [HR.out]; rintro e8 w8 ⟨rfl, hk8⟩; have HA8 := Lib.hid (HA.out.kept hk8); clear hk8 x0 x1 x2 xf))
    obtain ⟨x0, x1, x2, xf⟩ := cells3 (((HA8.out.end_ (PH.le.refl _)).block _ (lt_of_heap HB.out) (fun h => h)).trans HB.out)
    go_upto_region 11 with ((go_at_call 12; refine (Put_bad HR.out (.inr ⟨t, rfl⟩)).mono ?_; rintro e9 w9 ⟨rfl, hk9⟩; have HA9 := Lib.hid (HA8.out.kept hk9); clear hk9 x0 x1 x2 xf))
    obtain ⟨x0, x1, x2, xf⟩ := cells3 (((HA9.out.end_ (PH.le.refl _)).block _ (lt_of_heap HB.out) (fun h => h)).trans HB.out)
    go_wp2_with (first | (go_at_call 24; refine (Get_none (k := k) (HA9.out.nil_of (by decide))).mono ?_; rintro e10 w10 ⟨rfl, hk10⟩; have HA10 := Lib.hid (HA9.out.kept hk10); clear hk10 x0 x1 x2 xf) | (go_at_call 20; refine (Len_ok HA10.out).mono ?_; rintro e11 w11 ⟨rfl, rfl⟩; rw [show TM.empty.k.many = 0 from rfl]))
    go_ret
    exact ⟨rfl, HK.out.trans (HA10.out.end_ (PH.le.refl _)) (fun _ h => h.elim)⟩
  · have HR := Lib.hid hr
    have HPL := Lib.hid (show putL [] k v = [(k, v)] ∧ putB [] k = true ∧ putL [(k, v)] k v = [(k, v)] ∧ putB [(k, v)] k = false by
      unfold putL putB
      rw [hr, hasK_one, insL_one]
      exact ⟨rfl, rfl, rfl, rfl⟩)
    clear hr
    go_upto_region 9 with ((go_at_call 11; refine (New_ok HS6.out).mono ?_; rintro e7 w7 ⟨t, rfl, ha⟩; have HA := Lib.hid ha; clear ha))
    obtain ⟨x0, x1, x2, xf⟩ := cells3 (((HA.out.end_ (PH.le.refl _)).block _ (lt_of_heap HB.out) (fun h => h)).trans HB.out)
    go_upto_region 10 with ((go_at_call 26; refine (rright_ok k _).mono ?_; rw [HR.out]; rintro e8 w8 ⟨rfl, hk8⟩; have HA8 := Lib.hid (HA.out.kept hk8); clear hk8 x0 x1 x2 xf))
    obtain ⟨x0, x1, x2, xf⟩ := cells3 (((HA8.out.end_ (PH.le.refl _)).block _ (lt_of_heap HB.out) (fun h => h)).trans HB.out)
    go_upto_region 11 with ((go_at_call 12; refine (Put_ok k v good_empty small_empty (by omega) HA8.out).mono ?_; rw [HPL.out.2.1, HPL.out.1]; rintro e9 w9 ⟨T1, rfl, ha9, hn9⟩; have HA9 := Lib.hid ha9; have HN9 := Lib.hid hn9; clear ha9 hn9 x0 x1 x2 xf))
    obtain ⟨x0, x1, x2, xf⟩ := cells3 (((HA9.out.end_ (PH.le.refl _)).block _ (lt_of_heap HB.out) (fun h => h)).trans HB.out)
    obtain ⟨r, m, hroot, hm, hl, hks, hvs, hdep, hmany, hfl⟩ := HN9.out.good.single
    have HGT := Lib.hid (Get_at (k := k) hroot (.leaf hm hl) hm (by rw [hks]; simp) (by rw [hks, hvs]; rfl) HA9.out)
    have hgv : m.get k = v ∧ m.has k = true := by
      unfold NodeM.get NodeM.has
      rw [HR.out, hks, (bs_one k).1, (bs_one k).2, hvs]
      exact ⟨rfl, rfl⟩
    rw [hgv.1, hgv.2] at HGT
    clear hgv hroot hm hl hks hvs hdep hmany hfl
    go_upto_region 12 with ((go_at_call 24; refine HGT.out.mono ?_; rintro e10 w10 ⟨rfl, hk10⟩; have HA10 := Lib.hid (HA9.out.kept hk10); clear hk10 x0 x1 x2 xf HGT))
    obtain ⟨x0, x1, x2, xf⟩ := cells3 (((HA10.out.end_ (PH.le.refl _)).block _ (lt_of_heap HB.out) (fun h => h)).trans HB.out)
    go_wp2_with (first | (go_at_call 12; refine (Put_ok k v HN9.out.good (HN9.out.small small_empty) (by omega) HA10.out).mono ?_; rw [HPL.out.2.2.2, HPL.out.2.2.1]; rintro e11 w11 ⟨T2, rfl, ha11, hn11⟩; have HA11 := Lib.hid ha11; have HN11 := Lib.hid hn11; clear ha11 hn11 x0 x1 x2 xf; obtain ⟨x0, x1, x2, xf⟩ := cells3 (((HA11.out.end_ (PH.le.refl _)).block _ (lt_of_heap HB.out) (fun h => h)).trans HB.out)) | go_at_call 18; fail)
    obtain ⟨r, m, hroot, hm, hl, hks, hvs, hdep, hmany, hfl⟩ := HN11.out.good.single
    obtain ⟨b1, b2, b3⟩ := (HN11.out.small (HN9.out.small small_empty)).bound (by omega)
    have hrem : ∀ (w : World) (l : List HP), TreeA wa (heapOf wa) w t T2 l → Calls Try.prog 37 #[.pointer (some ⟨t, 0, none⟩), .int .i64 r, k.v] w fun e w' => e = .returned (.bool true) ∧ TreeA wa (heapOf wa) w' t { T2 with nodes := T2.nodes.set r { m with keys := delAt m.keys (bsAt m.keys k), vals := delAt m.vals (bsAt m.keys k) } } l :=
      fun w l ha => remove_found hm hl (by rw [hks]; simp) (by rw [hks, hvs]; rfl) (by rw [hks]; exact (bs_one k).2) ha
    have hlt := (List.getElem?_eq_some_iff.1 hm).1
    obtain ⟨TX, hTX⟩ : ∃ TX : TM, TX = { T2 with nodes := T2.nodes.set r { m with keys := delAt m.keys (bsAt m.keys k), vals := delAt m.vals (bsAt m.keys k) } } := ⟨_, rfl⟩
    rw [← hTX] at hrem
    have hxk : TX.k = T2.k := by rw [hTX]
    have hxm : TX.nodes[r]? = some { m with keys := delAt m.keys (bsAt m.keys k), vals := delAt m.vals (bsAt m.keys k) } := by rw [hTX]; dsimp only; rw [List.getElem?_set_self hlt]
    have hxl : TX.nodes.length = T2.nodes.length := by rw [hTX]; dsimp only; rw [List.length_set]
    have hxf : TX.free = T2.free := by rw [hTX]
    have HDEL := Lib.hid (Delete_last HR.out hrem hroot hxk ⟨by omega, by omega, by omega, by omega⟩ hxm (by omega) (by rw [hxf]; omega) hl hmany HA11.out)
    have hdp : (TX.drop1 (-1) r).k.depth = 0 := by show TX.k.depth - 1 = 0; rw [hxk]; omega
    have hrt : (TX.drop1 (-1) r).k.root < 0 := by show (-1 : Int) < 0; omega
    have HDP := Lib.hid hdp
    have HRT := Lib.hid hrt
    clear hdp hrt
    generalize TX.drop1 (-1) r = T3 at HDEL HDP HRT
    clear hTX hxk hxm hxl hxf
    clear hrem hroot hm hl hks hvs hdep hmany hfl b1 b2 b3
    refine HDEL.out.mono ?_
    rintro e12 w12 ⟨rfl, ha12⟩
    have HA12 := Lib.hid ha12
    clear ha12 x0 x1 x2 xf HDEL
    obtain ⟨x0, x1, x2, xf⟩ := cells3 (((HA12.out.end_ (PH.le.refl _)).block _ (lt_of_heap HB.out) (fun h => h)).trans HB.out)
    go_wp2_with (first | (go_at_call 18; refine (Delete_none (k := k) (HA12.out.nil_of HRT.out)).mono ?_; rintro e13 w13 ⟨rfl, hk13⟩; have HA13 := Lib.hid (HA12.out.kept hk13); clear hk13 x0 x1 x2 xf) | (go_at_call 21; refine (Depth_ok HA13.out).mono ?_; rintro e14 w14 ⟨rfl, rfl⟩; rw [HDP.out]))
    go_ret
    exact ⟨rfl, HK.out.trans (HA13.out.end_ (PH.le.refl _)) (fun _ h => h.elim)⟩
end Go.Proofs.Ytjijemeabfiipaa

/- The tree: a node's rows, inserted into and deleted from, up to the store (printed by gen27.py). -/
namespace Go.Proofs.Ytjijemeabfiipaa
open Go.ChangeShapes Go.WideShapes Go.ChangeAt Go.RowKit
set_option maxRecDepth 100000
set_option linter.unusedSimpArgs false

section
variable {B w : World} {D : PH} {t g c N : Nat} {fv : Value} {ns : List NP} {fr : List Nat} {k : Num} {l : List HP}

/-- keys: one is put in -/
theorem TreeS.ins_keys {bx b q : Nat} {p : NP} {x : Val} (h : TreeS B D w t (.slice (some ⟨g, 0, none⟩) N c) fv ns fr k (blk bx (Val.cells x).toArray tV :: l)) (hp : ns[b]? = some p) (hq : q ≤ p.2.keys.length) (hb : (p.2.keys.length + 1) * 32 ≤ 140737488355328) :
    Calls Try.prog 42 #[p.1.kv, .int .i64 q, .slice (some ⟨bx, 0, none⟩) 1 1] w fun e w' => ∃ o c', e = .returned (.slice o (p.2.keys.length + 1) c') ∧ w'.cell? ⟨g, b * 4 + 1, none⟩ = some p.1.kv ∧ (∀ j, w'.frozen? ⟨g, j, none⟩ = false) ∧
      TreeS B D (w'.setCell ⟨g, b * 4 + 1, none⟩ (.slice o (p.2.keys.length + 1) c')) t (.slice (some ⟨g, 0, none⟩) N c) fv (ns.set b (⟨(.slice o (p.2.keys.length + 1) c'), p.1.vv, p.1.dv⟩, { p.2 with keys := insAt p.2.keys q x })) fr k l := by
  refine (insert_Val (i := q) hq (Val.len x) (Val.one x) bx hb (h.for_keys hp)).mono ?_
  rintro e w' ⟨v', rfl, hs⟩
  have hs1 := hs.swap.drop
  obtain ⟨o, c', rfl⟩ := hs1.own_shape
  obtain ⟨n0, n1, n2, n3, nf⟩ := row_cells (hs1.own 4 rfl) hp
  refine ⟨o, c', rfl, n1, nf, ?_⟩
  rw [flat_insAt Val.len] at hs1
  obtain ⟨xs, hxs⟩ : ∃ xs, insAt p.2.keys q x = xs := ⟨_, rfl⟩
  have hsz : xs.length = p.2.keys.length + 1 := by rw [← hxs]; exact insAt_len _ _ _
  rw [hxs] at hs1 ⊢
  rw [← hsz] at hs1 ⊢
  exact TreeS.set_keys hp hs1

/-- keys: one is taken away -/
theorem TreeS.del_keys {b q n : Nat} {p : NP} (h : TreeS B D w t (.slice (some ⟨g, 0, none⟩) N c) fv ns fr k l) (hp : ns[b]? = some p) (hn : p.2.keys.length = n + 1) (hq : q ≤ n) :
    Calls Try.prog 48 #[p.1.kv, .int .i64 q, .int .i64 (q + 1)] w fun e w' => ∃ o c', e = .returned (.slice o n c') ∧ w'.cell? ⟨g, b * 4 + 1, none⟩ = some p.1.kv ∧ (∀ j, w'.frozen? ⟨g, j, none⟩ = false) ∧
      TreeS B D (w'.setCell ⟨g, b * 4 + 1, none⟩ (.slice o n c')) t (.slice (some ⟨g, 0, none⟩) N c) fv (ns.set b (⟨(.slice o n c'), p.1.vv, p.1.dv⟩, { p.2 with keys := delAt p.2.keys q })) fr k l := by
  have hf := h.focus hp
  unfold keysP at hf
  rw [hn] at hf
  refine (delete_Val (i := q) (n := n) (flat_delAt Val.len p.2.keys q).symm hq hf).mono ?_
  rintro e w' ⟨v', rfl, hs1⟩
  obtain ⟨o, c', rfl⟩ := hs1.own_shape
  obtain ⟨n0, n1, n2, n3, nf⟩ := row_cells (hs1.own 4 rfl) hp
  refine ⟨o, c', rfl, n1, nf, ?_⟩
  obtain ⟨xs, hxs⟩ : ∃ xs, delAt p.2.keys q = xs := ⟨_, rfl⟩
  have hsz : xs.length = n := by have := delAt_len p.2.keys q (by omega); rw [hxs] at this; omega
  rw [hxs] at hs1 ⊢
  exact TreeS.set_keys hp (by unfold keysP; rw [hsz]; exact hs1)

/-- vals: one is put in -/
theorem TreeS.ins_vals {bx b q : Nat} {p : NP} {x : VT} (h : TreeS B D w t (.slice (some ⟨g, 0, none⟩) N c) fv ns fr k (blk bx (vcells x).toArray tI :: l)) (hp : ns[b]? = some p) (hq : q ≤ p.2.vals.length) (hb : (p.2.vals.length + 1) * 8 ≤ 140737488355328) :
    Calls Try.prog 43 #[p.1.vv, .int .i64 q, .slice (some ⟨bx, 0, none⟩) 1 1] w fun e w' => ∃ o c', e = .returned (.slice o (p.2.vals.length + 1) c') ∧ w'.cell? ⟨g, b * 4 + 2, none⟩ = some p.1.vv ∧ (∀ j, w'.frozen? ⟨g, j, none⟩ = false) ∧
      TreeS B D (w'.setCell ⟨g, b * 4 + 2, none⟩ (.slice o (p.2.vals.length + 1) c')) t (.slice (some ⟨g, 0, none⟩) N c) fv (ns.set b (⟨p.1.kv, (.slice o (p.2.vals.length + 1) c'), p.1.dv⟩, { p.2 with vals := insAt p.2.vals q x })) fr k l := by
  refine (insert_Int (i := q) hq (vlen x) (vone x) bx hb (h.for_vals hp)).mono ?_
  rintro e w' ⟨v', rfl, hs⟩
  have hs1 := hs.swap.drop
  obtain ⟨o, c', rfl⟩ := hs1.own_shape
  obtain ⟨n0, n1, n2, n3, nf⟩ := row_cells (hs1.own 4 rfl) hp
  refine ⟨o, c', rfl, n2, nf, ?_⟩
  rw [flat_insAt vlen] at hs1
  obtain ⟨xs, hxs⟩ : ∃ xs, insAt p.2.vals q x = xs := ⟨_, rfl⟩
  have hsz : xs.length = p.2.vals.length + 1 := by rw [← hxs]; exact insAt_len _ _ _
  rw [hxs] at hs1 ⊢
  rw [← hsz] at hs1 ⊢
  exact TreeS.set_vals hp hs1

/-- vals: one is taken away -/
theorem TreeS.del_vals {b q n : Nat} {p : NP} (h : TreeS B D w t (.slice (some ⟨g, 0, none⟩) N c) fv ns fr k l) (hp : ns[b]? = some p) (hn : p.2.vals.length = n + 1) (hq : q ≤ n) :
    Calls Try.prog 49 #[p.1.vv, .int .i64 q, .int .i64 (q + 1)] w fun e w' => ∃ o c', e = .returned (.slice o n c') ∧ w'.cell? ⟨g, b * 4 + 2, none⟩ = some p.1.vv ∧ (∀ j, w'.frozen? ⟨g, j, none⟩ = false) ∧
      TreeS B D (w'.setCell ⟨g, b * 4 + 2, none⟩ (.slice o n c')) t (.slice (some ⟨g, 0, none⟩) N c) fv (ns.set b (⟨p.1.kv, (.slice o n c'), p.1.dv⟩, { p.2 with vals := delAt p.2.vals q })) fr k l := by
  have hf := h.focus hp
  have hf := hf.swap
  unfold valsP at hf
  rw [hn] at hf
  refine (delete_Int (i := q) (n := n) (flat_delAt vlen p.2.vals q).symm hq hf).mono ?_
  rintro e w' ⟨v', rfl, hs1⟩
  obtain ⟨o, c', rfl⟩ := hs1.own_shape
  obtain ⟨n0, n1, n2, n3, nf⟩ := row_cells (hs1.own 4 rfl) hp
  refine ⟨o, c', rfl, n2, nf, ?_⟩
  obtain ⟨xs, hxs⟩ : ∃ xs, delAt p.2.vals q = xs := ⟨_, rfl⟩
  have hsz : xs.length = n := by have := delAt_len p.2.vals q (by omega); rw [hxs] at this; omega
  rw [hxs] at hs1 ⊢
  exact TreeS.set_vals hp (by unfold valsP; rw [hsz]; exact hs1)

/-- kids: one is put in -/
theorem TreeS.ins_kids {bx b q : Nat} {p : NP} {x : Nat} (h : TreeS B D w t (.slice (some ⟨g, 0, none⟩) N c) fv ns fr k (blk bx (ncells x).toArray tI :: l)) (hp : ns[b]? = some p) (hq : q ≤ p.2.kids.length) (hb : (p.2.kids.length + 1) * 8 ≤ 140737488355328) :
    Calls Try.prog 43 #[p.1.dv, .int .i64 q, .slice (some ⟨bx, 0, none⟩) 1 1] w fun e w' => ∃ o c', e = .returned (.slice o (p.2.kids.length + 1) c') ∧ w'.cell? ⟨g, b * 4 + 3, none⟩ = some p.1.dv ∧ (∀ j, w'.frozen? ⟨g, j, none⟩ = false) ∧
      TreeS B D (w'.setCell ⟨g, b * 4 + 3, none⟩ (.slice o (p.2.kids.length + 1) c')) t (.slice (some ⟨g, 0, none⟩) N c) fv (ns.set b (⟨p.1.kv, p.1.vv, (.slice o (p.2.kids.length + 1) c')⟩, { p.2 with kids := insAt p.2.kids q x })) fr k l := by
  refine (insert_Int (i := q) hq (nlen x) (none_ x) bx hb (h.for_kids hp)).mono ?_
  rintro e w' ⟨v', rfl, hs⟩
  have hs1 := hs.swap.drop
  obtain ⟨o, c', rfl⟩ := hs1.own_shape
  obtain ⟨n0, n1, n2, n3, nf⟩ := row_cells (hs1.own 4 rfl) hp
  refine ⟨o, c', rfl, n3, nf, ?_⟩
  rw [flat_insAt nlen] at hs1
  obtain ⟨xs, hxs⟩ : ∃ xs, insAt p.2.kids q x = xs := ⟨_, rfl⟩
  have hsz : xs.length = p.2.kids.length + 1 := by rw [← hxs]; exact insAt_len _ _ _
  rw [hxs] at hs1 ⊢
  rw [← hsz] at hs1 ⊢
  exact TreeS.set_kids hp hs1

/-- kids: one is taken away -/
theorem TreeS.del_kids {b q n : Nat} {p : NP} (h : TreeS B D w t (.slice (some ⟨g, 0, none⟩) N c) fv ns fr k l) (hp : ns[b]? = some p) (hn : p.2.kids.length = n + 1) (hq : q ≤ n) :
    Calls Try.prog 49 #[p.1.dv, .int .i64 q, .int .i64 (q + 1)] w fun e w' => ∃ o c', e = .returned (.slice o n c') ∧ w'.cell? ⟨g, b * 4 + 3, none⟩ = some p.1.dv ∧ (∀ j, w'.frozen? ⟨g, j, none⟩ = false) ∧
      TreeS B D (w'.setCell ⟨g, b * 4 + 3, none⟩ (.slice o n c')) t (.slice (some ⟨g, 0, none⟩) N c) fv (ns.set b (⟨p.1.kv, p.1.vv, (.slice o n c')⟩, { p.2 with kids := delAt p.2.kids q })) fr k l := by
  have hf := h.focus hp
  have hf := hf.front 2 rfl
  simp only [List.eraseIdx_cons_succ, List.eraseIdx_cons_zero] at hf
  unfold kidsP at hf
  rw [hn] at hf
  refine (delete_Int (i := q) (n := n) (flat_delAt nlen p.2.kids q).symm hq hf).mono ?_
  rintro e w' ⟨v', rfl, hs1⟩
  obtain ⟨o, c', rfl⟩ := hs1.own_shape
  obtain ⟨n0, n1, n2, n3, nf⟩ := row_cells (hs1.own 4 rfl) hp
  refine ⟨o, c', rfl, n3, nf, ?_⟩
  obtain ⟨xs, hxs⟩ : ∃ xs, delAt p.2.kids q = xs := ⟨_, rfl⟩
  have hsz : xs.length = n := by have := delAt_len p.2.kids q (by omega); rw [hxs] at this; omega
  rw [hxs] at hs1 ⊢
  exact TreeS.set_kids hp (by unfold kidsP; rw [hsz]; exact hs1)

end
end Go.Proofs.Ytjijemeabfiipaa

/- The tree: three nodes of a tree, side by side. -/
namespace Go.Proofs.Ytjijemeabfiipaa
open Go.ChangeShapes Go.WideShapes Go.ChangeAt Go.RowKit
set_option maxRecDepth 100000
set_option linter.unusedSimpArgs false

structure Tri (ns0 ns : List NP) (i a b : Nat) (pi pa pb : NP) : Prop where
  hi : ns[i]? = some pi
  ha : ns[a]? = some pa
  hb : ns[b]? = some pb
  oth : ∀ z, z ≠ i → z ≠ a → z ≠ b → ns[z]? = ns0[z]?
  len : ns.length = ns0.length
  ia : i ≠ a
  ib : i ≠ b
  ab : a ≠ b
section
variable {ns0 ns : List NP} {i a b : Nat} {pi pa pb p' : NP}
theorem Tri.lt (h : Tri ns0 ns i a b pi pa pb) : i < ns0.length ∧ a < ns0.length ∧ b < ns0.length :=
  ⟨h.len ▸ (List.getElem?_eq_some_iff.1 h.hi).1, h.len ▸ (List.getElem?_eq_some_iff.1 h.ha).1, h.len ▸ (List.getElem?_eq_some_iff.1 h.hb).1⟩
theorem Tri.set_i (h : Tri ns0 ns i a b pi pa pb) (p' : NP) : Tri ns0 (ns.set i p') i a b p' pa pb :=
  ⟨set_get_self h.hi, set_get_ne h.ia h.ha, set_get_ne h.ib h.hb, fun z h1 h2 h3 => by rw [List.getElem?_set_ne (Ne.symm h1)]; exact h.oth z h1 h2 h3, by rw [List.length_set, h.len], h.ia, h.ib, h.ab⟩
theorem Tri.set_a (h : Tri ns0 ns i a b pi pa pb) (p' : NP) : Tri ns0 (ns.set a p') i a b pi p' pb :=
  ⟨set_get_ne (Ne.symm h.ia) h.hi, set_get_self h.ha, set_get_ne h.ab h.hb, fun z h1 h2 h3 => by rw [List.getElem?_set_ne (Ne.symm h2)]; exact h.oth z h1 h2 h3, by rw [List.length_set, h.len], h.ia, h.ib, h.ab⟩
theorem Tri.set_b (h : Tri ns0 ns i a b pi pa pb) (p' : NP) : Tri ns0 (ns.set b p') i a b pi pa p' :=
  ⟨set_get_ne (Ne.symm h.ib) h.hi, set_get_ne (Ne.symm h.ab) h.ha, set_get_self h.hb, fun z h1 h2 h3 => by rw [List.getElem?_set_ne (Ne.symm h3)]; exact h.oth z h1 h2 h3, by rw [List.length_set, h.len], h.ia, h.ib, h.ab⟩
/-- three nodes are others now -/
def TM.tri (T : TM) (i a b : Nat) (mi ma mb : NodeM) : TM := { T with nodes := ((T.nodes.set i mi).set a ma).set b mb }
theorem Tri.done (h : Tri ns0 ns i a b pi pa pb) {T : TM} (h0 : ns0.map Prod.snd = T.nodes) : ns.map Prod.snd = (T.tri i a b pi.2 pa.2 pb.2).nodes := by
  obtain ⟨l1, l2, l3⟩ := h.lt
  unfold TM.tri
  dsimp only
  rw [← h0]
  refine List.ext_getElem? (fun z => ?_)
  rw [List.getElem?_map]
  by_cases hb : z = b
  · subst hb
    rw [h.hb, List.getElem?_set_self (by simp; omega)]; rfl
  · rw [List.getElem?_set_ne (Ne.symm hb)]
    by_cases ha : z = a
    · subst ha
      rw [h.ha, List.getElem?_set_self (by simp; omega)]; rfl
    · rw [List.getElem?_set_ne (Ne.symm ha)]
      by_cases hi : z = i
      · subst hi
        rw [h.hi, List.getElem?_set_self (by simp; omega)]; rfl
      · rw [List.getElem?_set_ne (Ne.symm hi), h.oth z hi ha hb, List.getElem?_map]
end

/-- one key of a node is another now -/
theorem TreeS.key_set {B w : World} {D : PH} {t N g c kg nk ck : Nat} {fv : Value} {ns : List NP} {fr : List Nat} {k : Num} {l : List HP} (h : TreeS B D w t (.slice (some ⟨g, 0, none⟩) N c) fv ns fr k l) {i : Nat} {p : NP} (hi : ns[i]? = some p) (hk : p.1.kv = .slice (some ⟨kg, 0, none⟩) nk ck) (j : Nat) (x : Val) (hj : j < p.2.keys.length) :
    TreeS B D (((w.setCell ⟨kg, j * 3, none⟩ (.bool x.t)).setCell ⟨kg, j * 3 + 1, none⟩ (.int .i64 x.n)).setCell ⟨kg, j * 3 + 2, none⟩ (.string x.s)) t (.slice (some ⟨g, 0, none⟩) N c) fv (ns.set i (p.1, { p.2 with keys := p.2.keys.set j x })) fr k l := by
  obtain rfl := row_len (Sat.own h 1 rfl)
  have h1 := (h.focus hi)
  rw [hk] at h1
  obtain ⟨_, _, hv, hc, _⟩ := (h1.own 0 rfl).rd.2.2
  cases hv
  have h2 := ((h1.own_set (j * 3) (.bool x.t) rfl).own_set (j * 3 + 1) (.int .i64 x.n) rfl).own_set (j * 3 + 2) (.string x.s) rfl
  have e : ∀ (ks : List Val) (j : Nat), j < ks.length → ((((ks.flatMap Val.cells).set (j * 3) (.bool x.t)).set (j * 3 + 1) (.int .i64 x.n)).set (j * 3 + 2) (.string x.s)) = (ks.set j x).flatMap Val.cells := by
    intro ks
    induction ks with
    | nil => intro j hj; simp at hj
    | cons y ks ih => intro j hj; cases j with
      | zero => simp [Val.cells]
      | succ j =>
        have := ih j (by simpa using hj)
        simp only [List.flatMap_cons, List.set_cons_succ]
        rw [← this]
        have e0 : ∀ (q : Nat) (u : Value) (r : List Value), (y.cells ++ r).set (q + 3) u = y.cells ++ r.set q u := by
          intro q u r; simp [Val.cells]
        rw [show (j + 1) * 3 = j * 3 + 3 by omega, show j * 3 + 3 + 1 = (j * 3 + 1) + 3 by omega, show j * 3 + 3 + 2 = (j * 3 + 2) + 3 by omega, e0, e0, e0]
  rw [e _ _ hj] at h2
  have e2 : (p.2.keys.set j x).length = p.2.keys.length := List.length_set
  have h3 : (ns.set i (p.1, { p.2 with keys := p.2.keys.set j x })).flatMap nodeCells = ns.flatMap nodeCells := by
    have hlt := (List.getElem?_eq_some_iff.1 hi).1
    have := node_set 0 p (p.1, { p.2 with keys := p.2.keys.set j x }) (.bool p.2.leaf) (by omega) rfl ns i hi
    rw [← this, Nat.add_zero]
    refine List.ext_getElem? (fun q => ?_)
    by_cases hq : q = i * 4
    · subst hq
      rw [List.getElem?_set_self (by rw [flat_len nodeLen]; omega)]
      have := flat_get nodeLen ns i p hi 0 _ rfl
      rw [Nat.add_zero] at this
      exact this.symm
    · rw [List.getElem?_set_ne (fun h => hq h.symm)]
  refine TreeS.unfocus (p' := (p.1, { p.2 with keys := p.2.keys.set j x })) hi ?_
  rw [h3, hk]
  unfold keysP
  dsimp only
  rw [e2]
  exact h2
end Go.Proofs.Ytjijemeabfiipaa

/- The tree: a node's rows, appended to, up to the store (printed by gen30.py). -/
namespace Go.Proofs.Ytjijemeabfiipaa
open Go.ChangeShapes Go.WideShapes Go.ChangeAt Go.RowKit
set_option maxRecDepth 100000
set_option linter.unusedSimpArgs false

theorem infoVal' : (Try.prog.info? tV).map (fun i => (i.zero, i.size, i.bytes)) = some (some (.agg #[.bool false, .int .i64 0, .string ⟨#[]⟩]), 3, 32) := by kernel_rfl
/-- a row of values is stored nowhere else -/
theorem one_rd {w : World} {bx : Nat} {cs : List Value} {t : TypeId} {size : Nat} (h : w.heap[bx]? = some (.cells cs.toArray t (0, 0))) (hl : cs.length = size) : Rd w size (.slice (some ⟨bx, 0, none⟩) 1 1) 1 cs := by
  have := rd_block (n := 1) (size := size) h (by simpa using hl) (by unfold maxLen; omega)
  simpa using this
section
variable {B w : World} {D : PH} {t g c N : Nat} {fv : Value} {ns : List NP} {fr : List Nat} {k : Num} {l : List HP}

/-- keys: more behind -/
theorem wpList_app_keys {ops : Array Oper} {rest : List Oper} {o : Oper} {a : Act} {Q : Exit → Act → World → Prop} (hgd : o.guard = none) (s x : Operand)
    (ho : o.op = .call { callee := .builtin .append, args := #[s, x], argTypes := #[46, 46] })
    {b : Nat} {p : NP} {new : List Val} {xv : Value} (h : TreeS B D w t (.slice (some ⟨g, 0, none⟩) N c) fv ns fr k l) (hp : ns[b]? = some p) (hv : a.eval s = p.1.kv) (hx : a.eval x = xv) (hrd : Rd w 3 xv new.length (new.flatMap Val.cells)) (hb : p.2.keys.length + new.length ≤ 10000)
    (K : ∀ u c' w', w'.cell? ⟨g, b * 4 + 1, none⟩ = some p.1.kv → (∀ j, w'.frozen? ⟨g, j, none⟩ = false) →
      TreeS B D (w'.setCell ⟨g, b * 4 + 1, none⟩ (.slice u (p.2.keys.length + new.length) c')) t (.slice (some ⟨g, 0, none⟩) N c) fv (ns.set b (⟨(.slice u (p.2.keys.length + new.length) c'), p.1.vv, p.1.dv⟩, { p.2 with keys := p.2.keys ++ new })) fr k l → wpList Try.prog ops Q rest (a.put o.dst (.slice u (p.2.keys.length + new.length) c')) w') : wpList Try.prog ops Q (o :: rest) a w := by
  obtain ⟨i0, hinf, hz0, hz1, hz2⟩ := info_parts infoVal'
  have hf := h.focus hp
  unfold keysP at hf
  refine wpList_append_Sat _ hgd s x 46 ho tV i0 _ 3 32 Try.underlying46 hinf hz0 hz1 hz2 rfl _ _ _ hv hf xv new.length (new.flatMap Val.cells) hx hrd (fun u hu => ?_) (by unfold maxLen; omega) (by omega) ?_
  · obtain ⟨y, _, hy⟩ := List.mem_flatMap.1 hu
    exact Val.one y u hy
  intro v2 w2 h2 h2o
  obtain ⟨u, c', rfl⟩ := h2.own_shape
  obtain ⟨n0, n1, n2, n3, nf⟩ := row_cells (h2.own 4 rfl) hp
  refine K u c' w2 n1 nf ?_
  obtain ⟨xs, hxs⟩ : ∃ xs, p.2.keys ++ new = xs := ⟨_, rfl⟩
  have hsz : xs.length = p.2.keys.length + new.length := by rw [← hxs, List.length_append]
  rw [← List.flatMap_append, hxs, ← hsz] at h2
  rw [hxs, ← hsz]
  exact TreeS.set_keys hp h2

/-- vals: more behind -/
theorem wpList_app_vals {ops : Array Oper} {rest : List Oper} {o : Oper} {a : Act} {Q : Exit → Act → World → Prop} (hgd : o.guard = none) (s x : Operand)
    (ho : o.op = .call { callee := .builtin .append, args := #[s, x], argTypes := #[58, 58] })
    {b : Nat} {p : NP} {new : List VT} {xv : Value} (h : TreeS B D w t (.slice (some ⟨g, 0, none⟩) N c) fv ns fr k l) (hp : ns[b]? = some p) (hv : a.eval s = p.1.vv) (hx : a.eval x = xv) (hrd : Rd w 1 xv new.length (new.flatMap vcells)) (hb : p.2.vals.length + new.length ≤ 10000)
    (K : ∀ u c' w', w'.cell? ⟨g, b * 4 + 2, none⟩ = some p.1.vv → (∀ j, w'.frozen? ⟨g, j, none⟩ = false) →
      TreeS B D (w'.setCell ⟨g, b * 4 + 2, none⟩ (.slice u (p.2.vals.length + new.length) c')) t (.slice (some ⟨g, 0, none⟩) N c) fv (ns.set b (⟨p.1.kv, (.slice u (p.2.vals.length + new.length) c'), p.1.dv⟩, { p.2 with vals := p.2.vals ++ new })) fr k l → wpList Try.prog ops Q rest (a.put o.dst (.slice u (p.2.vals.length + new.length) c')) w') : wpList Try.prog ops Q (o :: rest) a w := by
  obtain ⟨i0, hinf, hz0, hz1, hz2⟩ := info_parts infoI
  have hf := h.focus hp
  have hf := hf.swap
  unfold valsP at hf
  refine wpList_append_Sat _ hgd s x 58 ho tI i0 _ 1 8 Try.underlying58 hinf hz0 hz1 hz2 rfl _ _ _ hv hf xv new.length (new.flatMap vcells) hx hrd (fun u hu => ?_) (by unfold maxLen; omega) (by omega) ?_
  · obtain ⟨y, _, hy⟩ := List.mem_flatMap.1 hu
    exact vone y u hy
  intro v2 w2 h2 h2o
  obtain ⟨u, c', rfl⟩ := h2.own_shape
  obtain ⟨n0, n1, n2, n3, nf⟩ := row_cells (h2.own 4 rfl) hp
  refine K u c' w2 n2 nf ?_
  obtain ⟨xs, hxs⟩ : ∃ xs, p.2.vals ++ new = xs := ⟨_, rfl⟩
  have hsz : xs.length = p.2.vals.length + new.length := by rw [← hxs, List.length_append]
  rw [← List.flatMap_append, hxs, ← hsz] at h2
  rw [hxs, ← hsz]
  exact TreeS.set_vals hp h2

/-- kids: more behind -/
theorem wpList_app_kids {ops : Array Oper} {rest : List Oper} {o : Oper} {a : Act} {Q : Exit → Act → World → Prop} (hgd : o.guard = none) (s x : Operand)
    (ho : o.op = .call { callee := .builtin .append, args := #[s, x], argTypes := #[58, 58] })
    {b : Nat} {p : NP} {new : List Nat} {xv : Value} (h : TreeS B D w t (.slice (some ⟨g, 0, none⟩) N c) fv ns fr k l) (hp : ns[b]? = some p) (hv : a.eval s = p.1.dv) (hx : a.eval x = xv) (hrd : Rd w 1 xv new.length (new.flatMap ncells)) (hb : p.2.kids.length + new.length ≤ 10000)
    (K : ∀ u c' w', w'.cell? ⟨g, b * 4 + 3, none⟩ = some p.1.dv → (∀ j, w'.frozen? ⟨g, j, none⟩ = false) →
      TreeS B D (w'.setCell ⟨g, b * 4 + 3, none⟩ (.slice u (p.2.kids.length + new.length) c')) t (.slice (some ⟨g, 0, none⟩) N c) fv (ns.set b (⟨p.1.kv, p.1.vv, (.slice u (p.2.kids.length + new.length) c')⟩, { p.2 with kids := p.2.kids ++ new })) fr k l → wpList Try.prog ops Q rest (a.put o.dst (.slice u (p.2.kids.length + new.length) c')) w') : wpList Try.prog ops Q (o :: rest) a w := by
  obtain ⟨i0, hinf, hz0, hz1, hz2⟩ := info_parts infoI
  have hf := h.focus hp
  have hf := hf.front 2 rfl
  simp only [List.eraseIdx_cons_succ, List.eraseIdx_cons_zero] at hf
  unfold kidsP at hf
  refine wpList_append_Sat _ hgd s x 58 ho tI i0 _ 1 8 Try.underlying58 hinf hz0 hz1 hz2 rfl _ _ _ hv hf xv new.length (new.flatMap ncells) hx hrd (fun u hu => ?_) (by unfold maxLen; omega) (by omega) ?_
  · obtain ⟨y, _, hy⟩ := List.mem_flatMap.1 hu
    exact none_ y u hy
  intro v2 w2 h2 h2o
  obtain ⟨u, c', rfl⟩ := h2.own_shape
  obtain ⟨n0, n1, n2, n3, nf⟩ := row_cells (h2.own 4 rfl) hp
  refine K u c' w2 n3 nf ?_
  obtain ⟨xs, hxs⟩ : ∃ xs, p.2.kids ++ new = xs := ⟨_, rfl⟩
  have hsz : xs.length = p.2.kids.length + new.length := by rw [← hxs, List.length_append]
  rw [← List.flatMap_append, hxs, ← hsz] at h2
  rw [hxs, ← hsz]
  exact TreeS.set_kids hp h2

end
end Go.Proofs.Ytjijemeabfiipaa
