/- Joined texts: The laws' own done: an act over a tree and over a row. TreePlays: a tree under any script has the keys told, in order, and at each what was put last. TreeRanges: the keys within any span; a span can be gone through again. -/
import Derived.Test.YtjijemeabfiipaaJ27
import Derived.Test.YtjijemeabfiipaaJ25
/- The laws' own done: an act over a tree and over a row. -/
namespace Go.Proofs.Ytjijemeabfiipaa
open Go.ChangeShapes Go.WideShapes Go.ChangeAt Go.RowKit
set_option maxRecDepth 100000
set_option linter.unusedSimpArgs false

theorem TreeA.lift {B w : World} {D : PH} {t : Nat} {T : TM} {X l : List HP} (h : TreeA B D w t T (X ++ l)) : ∃ l0, Sat B D w (X ++ l0) ∧ ∀ w' X', Sat B D w' (X' ++ l0) → TreeA B D w' t T (X' ++ l) := by
  obtain ⟨nv, fv, ns, hns, hs⟩ := h
  refine ⟨[blk t (treeCells nv fv T.k) tT, ownS tN 4 nv ns.length (ns.flatMap nodeCells), kidsP fv T.free, group (ns.map nodeP)] ++ l, ?_, fun w' X' h' => ⟨nv, fv, ns, hns, ?_⟩⟩
  · exact Sat.perm hs (List.perm_append_comm_assoc [blk t (treeCells nv fv T.k) tT, ownS tN 4 nv ns.length (ns.flatMap nodeCells), kidsP fv T.free, group (ns.map nodeP)] X l)
  · exact h'.perm (List.perm_append_comm_assoc X' [blk t (treeCells nv fv T.k) tT, ownS tN 4 nv ns.length (ns.flatMap nodeCells), kidsP fv T.free, group (ns.map nodeP)] l)
theorem TreeA.perm {B w : World} {D : PH} {t : Nat} {T : TM} {X Y l : List HP} (h : TreeA B D w t T (X ++ l)) (p : X.Perm Y) : TreeA B D w t T (Y ++ l) := by
  obtain ⟨l0, h1, h2⟩ := h.lift
  exact h2 _ Y (h1.perm (p.append_right _))
theorem TreeA.drop {B w : World} {D : PH} {t : Nat} {T : TM} {A : HP} {l : List HP} (h : TreeA B D w t T (A :: l)) : TreeA B D w t T l := by
  obtain ⟨l0, h1, h2⟩ := TreeA.lift (X := [A]) h
  exact h2 _ [] (Sat.drop h1)
theorem TreeA.alloc {B w : World} {D : PH} {t : Nat} {T : TM} {l : List HP} (h : TreeA B D w t T l) (cs : Array Value) (ty : TypeId) : TreeA B D (w.alloc (.cells cs ty)) t T (blk w.heap.size cs ty :: l) := by
  obtain ⟨l0, h1, h2⟩ := TreeA.lift (X := []) h
  exact h2 _ [blk w.heap.size cs ty] (Sat.alloc h1 cs ty)
theorem TreeA.blk {B w : World} {D : PH} {t : Nat} {T : TM} {l : List HP} (h : TreeA B D w t T l) (i : Nat) {b : Nat} {cs : Array Value} {ty : TypeId} (hi : l[i]? = some (Proofs.Ytjijemeabfiipaa.blk b cs ty)) : w.heap[b]? = some (.cells cs ty (0, 0)) := by
  obtain ⟨nv, fv, ns, hns, hs⟩ := h
  exact Sat.blk hs (i + 4) hi
theorem TreeA.own {B w : World} {D : PH} {t : Nat} {T : TM} {l : List HP} {e : TypeId} {size n : Nat} {v : Value} {xs : List Value} (h : TreeA B D w t T l) (i : Nat) (hi : l[i]? = some (ownS e size v n xs)) : Own w e size v n xs := by
  obtain ⟨nv, fv, ns, hns, hs⟩ := h
  exact Sat.own hs (i + 4) hi

theorem cutL_eq {L : PL} {k : Val} (hr : RightL L) : cutL L k = remL L k := by
  unfold cutL remL
  cases hk : valRight k
  · refine List.filter_eq_self.2 (fun p hp => ?_)
    have := hr p hp
    simp only [Bool.not_eq_true', decide_eq_false_iff_not]
    intro e
    rw [e, hk] at this
    cases this
  · show _ = delL L k
    unfold delL
    refine List.filter_congr (fun p hp => ?_)
    congr 1
    refine decide_eq_decide.2 ⟨fun e => by rw [e]; exact cmp_self k, fun e => cmp_eq (hr p hp) hk e⟩
theorem cut_less {L : PL} {k : Val} (hs : SortedL L) : decide ((remL L k).length < L.length) = remB L k := by
  unfold remB remL
  cases hk : valRight k
  · simp
  · have := delL_len (k := k) hs
    show decide ((delL L k).length < L.length) = (true && hasK L k)
    cases hh : hasK L k
    · rw [hh] at this; simp at this ⊢; omega
    · rw [hh] at this; simp at this ⊢; omega

/-- an act over a row -/
def actL (L : PL) (a : ActT) : PL := if a.del then remL L a.k else putL L a.k a.v
theorem actL_fits {L : PL} {a : ActT} (h : FitsL L) (ha : a.k.fits) : FitsL (actL L a) := by
  intro p hp
  unfold actL at hp
  split at hp
  · unfold remL at hp
    split at hp
    · exact h p (delL_mem hp)
    · exact h p hp
  · unfold putL at hp
    split at hp
    · rcases mem_insL hp with rfl | hp
      · exact ha
      · exact h p hp
    · exact h p hp

set_option maxHeartbeats 4000000 in
theorem done_ok {B w : World} {D : PH} {t n : Nat} {T : TM} {L : PL} {v : Value} {l : List HP} (a : ActT) (hkf : a.k.fits) (hfl : FitsL L) (hG : Good T L) (hS : Small T L n) (hn : n ≤ 500) (h : TreeA B D w t T (rowP v L :: l)) :
    Calls Try.prog 16 #[.pointer (some ⟨t, 0, none⟩), v, a.val] w fun e w' => ∃ T' v', e = .returned (.tuple #[v', .bool true]) ∧ TreeA B D w' t T' (rowP v' (actL L a) :: l) ∧ Next T T' L (actL L a) := by
  have h1 := h.alloc #[.bool a.del, .bool a.k.t, .int .i64 a.k.n, .string a.k.s, .int .i64 a.v] tAct
  obtain ⟨b1, b2, b3⟩ := hS.bound hn
  have HA := Lib.hid h1
  have HG := Lib.hid hG
  have HS := Lib.hid hS
  have HFL := Lib.hid hfl
  have HKF := Lib.hid hkf
  obtain ⟨ao, cap, rfl⟩ : ∃ ao cap, v = .slice ao L.length cap := by
    obtain ⟨_, _, ao, cap, hv, _⟩ := (h.own 0 rfl).rd
    exact ⟨ao, cap, hv⟩
  clear h h1 hG hS hfl hkf b1 b2
  dsimp only [ActT.val]
  go_enter Try.func16, Try.ntmps16
  go_upto_region 1 with (fail)
  obtain ⟨W, hW⟩ : ∃ W, W = w.alloc (.cells #[.bool a.del, .bool a.k.t, .int .i64 a.k.n, .string a.k.s, .int .i64 a.v] tAct) := ⟨_, rfl⟩
  rw [← hW] at HA ⊢
  clear hW
  revert HA
  generalize w.heap.size = bk
  intro HA
  obtain ⟨x0, x1, x2, x3, x4, xf⟩ := cells5 (HA.out.blk 0 rfl)
  rcases (show a.del = false ∨ a.del = true by cases a.del <;> simp) with hd | hd
  all_goals rw [hd] at x0
  · have HPUT := Lib.hid (Put_ok a.k a.v HG.out HS.out hn HA.out)
    have HACT := Lib.hid (show actL L a = putL L a.k a.v by unfold actL; rw [hd]; rfl)
    clear hd
    go_upto_region 6 with ((go_at_call 12; refine HPUT.out.mono ?_; clear HPUT; rintro e2 w2 ⟨T2, rfl, ha2, hn2⟩; have HA2 := Lib.hid ha2; have HN2 := Lib.hid hn2; clear ha2 hn2 x0 x1 x2 x3 x4 xf))
    obtain ⟨x0, x1, x2, x3, x4, xf⟩ := cells5 (HA2.out.blk 0 rfl)
    obtain ⟨l0, hl1, hl2⟩ := TreeA.lift (X := [rowP (.slice ao L.length cap) L]) HA2.out.drop
    go_wp2_with ((go_at_call 35; refine (rput_ok a.k a.v HKF.out HFL.out HG.out.sorted (by omega) hl1).mono ?_; rintro e3 w3 ⟨v3, rfl, hs3⟩; have HA3 := Lib.hid (hl2 _ [rowP v3 (putL L a.k a.v)] hs3); clear hs3 hl1 hl2 x0 x1 x2 x3 x4 xf))
    go_ret2
    exact ⟨T2, v3, rfl, by rw [HACT.out]; exact HA3.out, by rw [HACT.out]; exact HN2.out⟩
  · have HDEL := Lib.hid (Delete_ok a.k HG.out HS.out hn HA.out)
    have HACT := Lib.hid (show actL L a = remL L a.k by unfold actL; rw [hd]; rfl)
    clear hd
    go_upto_region 3 with ((go_at_call 18; refine HDEL.out.mono ?_; clear HDEL; rintro e2 w2 ⟨T2, rfl, ha2, hn2⟩; have HA2 := Lib.hid ha2; have HN2 := Lib.hid hn2; clear ha2 hn2 x0 x1 x2 x3 x4 xf))
    obtain ⟨x0, x1, x2, x3, x4, xf⟩ := cells5 (HA2.out.blk 0 rfl)
    obtain ⟨l0, hl1, hl2⟩ := TreeA.lift (X := [rowP (.slice ao L.length cap) L]) HA2.out.drop
    have HCUT := Lib.hid (cutL_eq (k := a.k) HG.out.right)
    have HLESS := Lib.hid (cut_less (k := a.k) HG.out.sorted)
    go_wp2_with ((go_at_call 34; refine (rdel_ok a.k (by omega) hl1).mono ?_; rw [HCUT.out, HLESS.out]; rintro e3 w3 ⟨v3, rfl, hs3⟩; have HA3 := Lib.hid (hl2 _ [rowP v3 (remL L a.k)] hs3.swap.drop); clear hs3 hl1 hl2 x0 x1 x2 x3 x4 xf))
    go_ret2
    exact ⟨T2, v3, rfl, by rw [HACT.out]; exact HA3.out, by rw [HACT.out]; exact HN2.out⟩
end Go.Proofs.Ytjijemeabfiipaa

/- TreePlays: a tree under any script has the keys told, in order, and at each what was put last. -/
namespace Go.Proofs.Ytjijemeabfiipaa
open Go.ChangeShapes Go.WideShapes Go.ChangeAt Go.RowKit
set_option maxRecDepth 100000
set_option linter.unusedSimpArgs false

theorem inS0 (L : PL) : inS spn0 L = L := by
  unfold inS
  refine List.filter_eq_self.2 (fun p _ => ?_)
  simp [spanIn, spanLo, spanHi, spn0]
/-- a tree under way beside a row -/
def RunsL (B w : World) (D : PH) (t n : Nat) (v : Value) : Prop := ∃ T L, Good T L ∧ Small T L n ∧ FitsL L ∧ TreeA B D w t T [rowP v L]
theorem RunsL.first {B w : World} {D : PH} {t : Nat} (h : TreeA B D w t TM.empty []) : RunsL B w D t 0 (.slice none 0 0) := by
  obtain ⟨l0, h1, h2⟩ := TreeA.lift (X := []) h
  exact ⟨_, _, good_empty, small_empty, fun p hp => by simp at hp, h2 _ [rowP (.slice none 0 0) []] (Sat.own_nil h1 tP 4)⟩

set_option maxHeartbeats 4000000 in
theorem plays_ok {w : World} {sv : Value} {acts : List ActT} (hx : ActsRd w sv acts) (hf : ∀ a ∈ acts, a.k.fits) :
    Calls Try.prog 7 #[sv] w fun e w' => e = .returned (.bool true) ∧ Kept (fun _ => False) w w' := by
  obtain ⟨_, m1, ao, cap, rfl, hcap, hcap2, hao, _⟩ := id hx
  have HX := Lib.hid hx
  have HF := Lib.hid hf
  obtain ⟨NA, hNA⟩ : ∃ NA, acts.length = NA := ⟨_, rfl⟩
  have HNA := Lib.hid hNA
  unfold ActsRd at HX
  rw [hNA] at m1 hcap HX ⊢
  unfold maxLen at m1 hcap2
  clear hx hNA hf
  go_enter Try.func7, Try.ntmps7
  go_wp2_with (first | (go_at_call 10; refine (awake_ok _).mono ?_; rintro e1 w1 ⟨rfl, hk1⟩; have HS1 := Lib.hid ((Sat.start w).kept hk1); clear hk1) | (go_at_call 11; refine (New_ok HS1.out).mono ?_; rintro e2 w2 ⟨t, rfl, ha⟩; have HA := Lib.hid ha; clear ha))
  go_loopw [5, 6, 7, 8, 9, 10, 11, 12] (fun lv idx _ _ _ _ _ _ wr => ∃ (j : Nat) (lo : Option Addr) (n lc : Nat), lv = .slice lo n lc ∧ idx = .int .i64 j ∧ j ≤ NA ∧ j ≤ 120 ∧ RunsL w wr (heapOf w) t j lv) (fun _ idx _ _ _ _ _ _ _ => NA - (intOf idx).toNat)
  case atStart => exact ⟨0, none, 0, 0, rfl, rfl, Nat.zero_le _, Nat.zero_le _, RunsL.first HA.out⟩
  case round =>
    obtain ⟨j, lo, ln, lc, rfl, rfl, hjN, hj1, T, L, hG, hS, hFL, hA⟩ := hrel
    obtain rfl : ln = L.length := by
      obtain ⟨_, _, ao, cap, hv, _⟩ := (hA.own 0 rfl).rd
      cases hv
      rfl
    by_cases hlt : j < NA ∧ j < 120
    · obtain ⟨hlt1, hlt2⟩ := hlt
      obtain ⟨x, hx⟩ : ∃ x, acts[j]? = some x := ⟨acts[j]'(by rw [HNA.out]; exact hlt1), List.getElem?_eq_getElem _⟩
      have hrd := HX.out.kept (hA.end_ (PH.le.refl _)) (fun _ _ h => h)
      obtain ⟨og, oo, rfl⟩ : ∃ og oo, ao = some ⟨og, oo, none⟩ := by
        rcases hrd.2.2 with ⟨_, _, hv, _, _, _, hc⟩
        cases hv
        rcases hc with h0 | ⟨g, o, hg, _⟩
        · omega
        · exact ⟨g, o, hg⟩
      obtain ⟨a0, a1, a2, a3, a4⟩ := act_cells hrd hx
      have hi1 : (j : Int) < (NA : Int) := by omega
      have hi2 : (j : Int) < 120 := by omega
      have HXJ := Lib.hid hx
      have hfx := HF.out x (List.mem_of_getElem? hx)
      have HDO := Lib.hid (done_ok x hfx hFL hG hS (by omega) hA)
      have HFL2 := Lib.hid (actL_fits hFL hfx)
      have HSM := Lib.hid hS
      clear hG hS hA hrd hFL hfx hx
      go_upto_region 10 with ((go_at_call 16; refine HDO.out.mono ?_; clear HDO; rintro e3 w3 ⟨T3, v3, rfl, ha3, hn3⟩; obtain ⟨L3, hL3⟩ : ∃ L3, L3 = actL L x := ⟨_, rfl⟩; rw [← hL3] at ha3 hn3 HFL2; have HA3 := Lib.hid ha3; have HN3 := Lib.hid hn3; clear ha3 hn3 a0 a1 a2 a3 a4 hL3))
      have HG3 := Lib.hid HN3.out.good
      have HS3 := Lib.hid (HN3.out.small HSM.out)
      obtain ⟨b1, b2, b3⟩ := HS3.out.bound (by omega)
      obtain ⟨o3, c3, rfl⟩ : ∃ o3 c3, v3 = .slice o3 L3.length c3 := by
        obtain ⟨_, _, ao, cap, hv, _⟩ := (HA3.out.own 0 rfl).rd
        exact ⟨ao, cap, hv⟩
      obtain ⟨a0, a1, a2, a3, a4⟩ := act_cells (HX.out.kept (HA3.out.end_ (PH.le.refl _)) (fun _ _ h => h)) HXJ.out
      go_upto_region 12 with ((go_at_call 24; refine (Get_ok x.k HG3.out HA3.out).mono ?_; rintro e4 w4 ⟨rfl, hk4⟩; have HA4 := Lib.hid (HA3.out.kept hk4); clear hk4 a0 a1 a2 a3 a4))
      obtain ⟨a0, a1, a2, a3, a4⟩ := act_cells (HX.out.kept (HA4.out.end_ (PH.le.refl _)) (fun _ _ h => h)) HXJ.out
      go_upto_region 13 with ((go_at_call 25; refine (rget_ok x.k (HA4.out.own 0 rfl).rd).mono ?_; rintro e5 w5 ⟨rfl, hk5⟩; have HA5 := Lib.hid (HA4.out.kept hk5); clear hk5 a0 a1 a2 a3 a4))
      have HMANY := Lib.hid HG3.out.many
      have HQ := Lib.hid (HG3.out.tells spn0)
      rw [inS0] at HQ
      go_wp2_with (first | (go_at_call 20; refine (Len_ok HA5.out).mono ?_; rw [HMANY.out]; rintro e6 w6 ⟨rfl, rfl⟩) | (go_at_call 13; refine (pairs_ok (s := spn0) HQ.out (by omega) HA5.out).mono ?_; rintro e7 w7 ⟨v7, rfl, ha7⟩; have HA7 := Lib.hid ha7; clear ha7) | (go_at_call 15; refine (psame_ok (l1 := L3) (l2 := L3) (HA7.out.own 0 rfl).rd (HA7.out.own 1 rfl).rd).mono ?_; rw [decide_eq_true (Eq.refl L3)]; rintro e8 w8 ⟨rfl, n8, hn8⟩; have HA8 := Lib.hid (HA7.out.kept (w' := w8) (by rw [hn8]; exact (Kept.refl _ _).drewN _)); clear hn8))
      exact ⟨⟨j + 1, o3, L3.length, c3, rfl, by simp, by omega, by omega, T3, L3, HG3.out, HS3.out, HFL2.out, HA8.out.drop⟩, by simp [intOf]; omega⟩
    · have HA3 := Lib.hid hA
      clear hG hS hA hFL
      have hcut : ¬ (j : Int) < (NA : Int) ∨ ((j : Int) < (NA : Int) ∧ ¬ (j : Int) < 120) := by omega
      rcases hcut with hcut | ⟨hcut1, hcut2⟩
      all_goals
        go_wp2_with fail
        go_ret
        exact ⟨rfl, HA3.out.end_ (PH.le.refl _)⟩
end Go.Proofs.Ytjijemeabfiipaa

/- TreeRanges: the keys within any span; a span can be gone through again. -/
namespace Go.Proofs.Ytjijemeabfiipaa
open Go.ChangeShapes Go.WideShapes Go.ChangeAt Go.RowKit
set_option maxRecDepth 100000
set_option linter.unusedSimpArgs false

set_option maxHeartbeats 4000000 in
theorem ranges_ok {w : World} {sv : Value} {acts : List ActT} (s : Spn) (hx : ActsRd w sv acts) (hf : ∀ a ∈ acts, a.k.fits) (hsf : s.fits) :
    Calls Try.prog 4 #[sv, s.v] w fun e w' => e = .returned (.bool true) ∧ Kept (fun _ => False) w w' := by
  obtain ⟨wa, hwa⟩ : ∃ wa, wa = w.alloc (.cells s.cells tS) := ⟨_, rfl⟩
  have hk1 : Kept (fun _ => False) w wa := by rw [hwa]; exact (Kept.refl _ _).alloc _
  have hb1 : wa.heap[w.heap.size]? = some (.cells s.cells tS (0, 0)) := by rw [hwa]; exact heap_alloc_self w _
  obtain ⟨_, m1, ao, cap, rfl, hcap, hcap2, hao, _⟩ := id hx
  have HX := Lib.hid (hx.kept hk1 (fun _ _ h => h))
  have HF := Lib.hid hf
  have HSF := Lib.hid hsf
  have HK := Lib.hid hk1
  have HB := Lib.hid hb1
  obtain ⟨NA, hNA⟩ : ∃ NA, acts.length = NA := ⟨_, rfl⟩
  have HNA := Lib.hid hNA
  unfold ActsRd at HX
  rw [hNA] at m1 hcap HX ⊢
  unfold maxLen at m1 hcap2
  have HWA := Lib.hid hwa
  clear hx hNA hf hsf hk1 hb1 hwa
  dsimp only [Spn.v]
  go_enter Try.func4, Try.ntmps4
  go_upto_region 1 with (fail)
  have hwa := HWA.out
  dsimp only [Spn.cells] at hwa
  rw [← hwa]
  clear hwa HWA
  revert HB
  generalize w.heap.size = bs
  intro HB
  go_wp2_with (first | (go_at_call 10; refine (awake_ok _).mono ?_; rintro e1 w1 ⟨rfl, hk1⟩; have HS1 := Lib.hid ((Sat.start wa).kept hk1); clear hk1) | (go_at_call 11; refine (New_ok HS1.out).mono ?_; rintro e2 w2 ⟨t, rfl, ha⟩; have HA := Lib.hid ha; clear ha))
  go_loopw [7, 8] (fun lv idx wr => ∃ (j : Nat) (lo : Option Addr) (n lc : Nat), lv = .slice lo n lc ∧ idx = .int .i64 j ∧ j ≤ NA ∧ j ≤ 120 ∧ RunsL wa wr (heapOf wa) t j lv) (fun _ idx _ => NA - (intOf idx).toNat)
  case atStart => exact ⟨0, none, 0, 0, rfl, rfl, Nat.zero_le _, Nat.zero_le _, RunsL.first HA.out⟩
  case round =>
    obtain ⟨j, lo, ln, lc, rfl, rfl, hjN, hj1, T, L, hG, hS, hFL, hA⟩ := hrel
    obtain rfl : ln = L.length := by
      obtain ⟨_, _, ao, cap, hv, _⟩ := (hA.own 0 rfl).rd
      cases hv
      rfl
    by_cases hlt : j < NA ∧ j < 120
    · obtain ⟨hlt1, hlt2⟩ := hlt
      obtain ⟨x, hx⟩ : ∃ x, acts[j]? = some x := ⟨acts[j]'(by rw [HNA.out]; exact hlt1), List.getElem?_eq_getElem _⟩
      have hrd := HX.out.kept (hA.end_ (PH.le.refl _)) (fun _ _ h => h)
      obtain ⟨og, oo, rfl⟩ : ∃ og oo, ao = some ⟨og, oo, none⟩ := by
        rcases hrd.2.2 with ⟨_, _, hv, _, _, _, hc⟩
        cases hv
        rcases hc with h0 | ⟨g, o, hg, _⟩
        · omega
        · exact ⟨g, o, hg⟩
      obtain ⟨a0, a1, a2, a3, a4⟩ := act_cells hrd hx
      have hi1 : (j : Int) < (NA : Int) := by omega
      have hi2 : (j : Int) < 120 := by omega
      have hfx := HF.out x (List.mem_of_getElem? hx)
      have HDO := Lib.hid (done_ok x hfx hFL hG hS (by omega) hA)
      have HFL2 := Lib.hid (actL_fits hFL hfx)
      have HSM := Lib.hid hS
      clear hG hS hA hrd hFL hfx hx
      go_wp2_with ((go_at_call 16; refine HDO.out.mono ?_; clear HDO; rintro e3 w3 ⟨T3, v3, rfl, ha3, hn3⟩; obtain ⟨L3, hL3⟩ : ∃ L3, L3 = actL L x := ⟨_, rfl⟩; rw [← hL3] at ha3 hn3 HFL2; have HA3 := Lib.hid ha3; have HN3 := Lib.hid hn3; clear ha3 hn3 a0 a1 a2 a3 a4 hL3; obtain ⟨o3, c3, rfl⟩ : ∃ o3 c3, v3 = .slice o3 L3.length c3 := (by obtain ⟨_, _, ao, cap, hv, _⟩ := (HA3.out.own 0 rfl).rd; exact ⟨ao, cap, hv⟩)))
      exact ⟨⟨j + 1, o3, L3.length, c3, rfl, by simp, by omega, by omega, T3, L3, HN3.out.good, HN3.out.small HSM.out, HFL2.out, HA3.out⟩, by simp [intOf]; omega⟩
    · have HA3 := Lib.hid hA
      have HG3 := Lib.hid hG
      have HFL3 := Lib.hid hFL
      have hll := hS.len
      have hlq := inS_len s L
      have HQ := Lib.hid (hG.tells s)
      clear hG hS hA hFL
      have hcut : ¬ (j : Int) < (NA : Int) ∨ ((j : Int) < (NA : Int) ∧ ¬ (j : Int) < 120) := by omega
      rcases hcut with hcut | ⟨hcut1, hcut2⟩
      all_goals
        go_upto_region 10 with (fail)
        obtain ⟨s0, s1, s2, s3, s4, s5, s6, s7, s8, s9, s10⟩ := Spn.at (s := s) (((HA3.out.end_ (PH.le.refl _)).block _ (lt_of_heap HB.out) (fun h => h)).trans HB.out)
        obtain ⟨l0, hl1, hl2⟩ := TreeA.lift (X := [rowP (.slice lo L.length lc) L]) HA3.out
        go_upto_region 11 with ((go_at_call 17; refine (rrange_ok s HSF.out HFL3.out (by omega) hl1).mono ?_; rintro e4 w4 ⟨v4, rfl, hs4⟩; have HA4 := Lib.hid (hl2 _ [rowP v4 (inS s L), rowP (.slice lo L.length lc) L] hs4); clear hs4 hl1 hl2 s0 s1 s2 s3 s4 s5 s6 s7 s8 s9 s10))
        obtain ⟨s0, s1, s2, s3, s4, s5, s6, s7, s8, s9, s10⟩ := Spn.at (s := s) (((HA4.out.end_ (PH.le.refl _)).block _ (lt_of_heap HB.out) (fun h => h)).trans HB.out)
        have HPA1 := Lib.hid (pairs_ok (s := s) HQ.out (by omega) HA4.out)
        have HPA2 := Lib.hid (fun (W : World) (X : List HP) (hW : TreeA wa (heapOf wa) W t T X) => pairs_ok (s := s) HQ.out (by omega) hW)
        generalize inS s L = Q at hlq HA4 HPA1 HPA2
        clear hlq
        go_wp2_with (first | (go_at_call 13; refine HPA1.out.mono ?_; clear HPA1; rintro e7 w7 ⟨v7, rfl, ha7⟩; have HA7 := Lib.hid ha7; clear ha7 s0 s1 s2 s3 s4 s5 s6 s7 s8 s9 s10; obtain ⟨s0, s1, s2, s3, s4, s5, s6, s7, s8, s9, s10⟩ := Spn.at (s := s) (((HA7.out.end_ (PH.le.refl _)).block _ (lt_of_heap HB.out) (fun h => h)).trans HB.out)) | (go_at_call 13; refine (HPA2.out _ _ HA8.out).mono ?_; rintro e9 w9 ⟨v9, rfl, ha9⟩; have HA9 := Lib.hid ha9; clear ha9 s0 s1 s2 s3 s4 s5 s6 s7 s8 s9 s10) | (go_at_call 15; refine (psame_ok (l1 := Q) (l2 := Q) (HA7.out.own 0 rfl).rd (HA7.out.own 1 rfl).rd).mono ?_; rw [decide_eq_true (Eq.refl Q)]; rintro e8 w8 ⟨rfl, n8, hn8⟩; have HA8 := Lib.hid (HA7.out.kept (w' := w8) (by rw [hn8]; exact (Kept.refl _ _).drewN _)); clear hn8 HA7 s0 s1 s2 s3 s4 s5 s6 s7 s8 s9 s10; obtain ⟨s0, s1, s2, s3, s4, s5, s6, s7, s8, s9, s10⟩ := Spn.at (s := s) (((HA8.out.end_ (PH.le.refl _)).block _ (lt_of_heap HB.out) (fun h => h)).trans HB.out)) | (go_at_call 15; refine (psame_ok (l1 := Q) (l2 := Q) (HA9.out.own 0 rfl).rd (HA9.out.own 2 rfl).rd).mono ?_; rw [decide_eq_true (Eq.refl Q)]; rintro e10 w10 ⟨rfl, n10, hn10⟩; have HA10 := Lib.hid (HA9.out.kept (w' := w10) (by rw [hn10]; exact (Kept.refl _ _).drewN _)); clear hn10))
        go_ret
        exact ⟨rfl, HK.out.trans (HA10.out.end_ (PH.le.refl _)) (fun _ h => h.elim)⟩
end Go.Proofs.Ytjijemeabfiipaa
