/- TreeShapes: no deeper than its keys allow, no more nodes than keys, no more room than was used. -/
import Derived.Test.YtjijemeabfiipaaJ22
import Derived.Test.YtjijemeabfiipaaJ23
namespace Go.Proofs.Ytjijemeabfiipaa
open Go.ChangeShapes Go.WideShapes Go.ChangeAt Go.RowKit
set_option maxRecDepth 100000
set_option linter.unusedSimpArgs false

theorem Small.more {T : TM} {L : PL} {n : Nat} (h : Small T L n) : Small T L (n + 1) := ⟨by have := h.depth; omega, Nat.le_trans h.nodes (Nat.mul_le_mul (by omega) (by omega)), by have := h.len; omega⟩
/-- a tree under way, and how many nodes it has had -/
def RunsM (B w : World) (D : PH) (t n : Nat) (most : Int) : Prop := ∃ T L, Good T L ∧ Small T L n ∧ most = (T.nodes.length : Int) ∧ TreeA B D w t T []
theorem shl_one (d : Nat) (h : d ≤ 7) : wrap64 (2 ^ d) = ((2 ^ d : Nat) : Int) := by
  have h1 : 2 ^ d ≤ 2 ^ 7 := Nat.pow_le_pow_right (by omega) h
  have h2 : ((2 : Int) ^ d) = ((2 ^ d : Nat) : Int) := by rw [Int.natCast_pow]; rfl
  rw [h2]
  unfold wrap64
  generalize 2 ^ d = q at *
  omega

set_option maxHeartbeats 4000000 in
theorem shapes_ok {w : World} {sv : Value} {acts : List ActT} (hx : ActsRd w sv acts) :
    Calls Try.prog 6 #[sv] w fun e w' => e = .returned (.bool true) ∧ Kept (fun _ => False) w w' := by
  obtain ⟨_, m1, ao, cap, rfl, hcap, hcap2, hao, _⟩ := id hx
  have HX := Lib.hid hx
  obtain ⟨NA, hNA⟩ : ∃ NA, acts.length = NA := ⟨_, rfl⟩
  have HNA := Lib.hid hNA
  unfold ActsRd at HX
  rw [hNA] at m1 hcap HX ⊢
  unfold maxLen at m1 hcap2
  clear hx hNA
  go_enter Try.func6, Try.ntmps6
  go_wp2_with (first | (go_at_call 10; refine (awake_ok _).mono ?_; rintro e1 w1 ⟨rfl, hk1⟩; have HS1 := Lib.hid ((Sat.start w).kept hk1); clear hk1) | (go_at_call 11; refine (New_ok HS1.out).mono ?_; rintro e2 w2 ⟨t, rfl, ha⟩; have HA := Lib.hid ha; clear ha))
  go_loopw [5, 6, 7, 8] (fun most idx _ _ wr => ∃ (j : Nat) (M : Int), most = .int .i64 M ∧ idx = .int .i64 j ∧ j ≤ NA ∧ j ≤ 200 ∧ RunsM w wr (heapOf w) t j M) (fun _ idx _ _ _ => NA - (intOf idx).toNat)
  case atStart => exact ⟨0, 0, rfl, rfl, Nat.zero_le _, Nat.zero_le _, _, _, good_empty, small_empty, rfl, HA.out⟩
  case round =>
    obtain ⟨j, M, rfl, rfl, hjN, hj1, T, L, hG, hS, hM, hA⟩ := hrel
    by_cases hlt : j < NA ∧ j < 200
    · obtain ⟨hlt1, hlt2⟩ := hlt
      obtain ⟨x, hx⟩ : ∃ x, acts[j]? = some x := ⟨acts[j]'(by rw [HNA.out]; exact hlt1), List.getElem?_eq_getElem _⟩
      have hrd := HX.out.kept (hA.end_ (PH.le.refl _)) (fun _ _ h => h)
      obtain ⟨og, oo, rfl⟩ : ∃ og oo, ao = some ⟨og, oo, none⟩ := by
        rcases hrd.2.2 with ⟨_, _, hv, _, _, _, hc⟩
        cases hv
        rcases hc with h0 | ⟨g, o, hg, _⟩
        · omega
        · exact ⟨g, o, hg⟩
      obtain ⟨a0, a1, a2, a3, a4⟩ := act_cells hrd hx
      have hi1 : (j : Int) < (NA : Int) := by omega
      have hi2 : (j : Int) < 200 := by omega
      have HP := Lib.hid (Put_ok x.k x.v hG hS (by omega) (hA.drew))
      have HD := Lib.hid (Delete_ok x.k hG hS (by omega) hA)
      have HSM := Lib.hid hS
      have HM := Lib.hid hM
      clear hG hS hA hrd hM
      rcases (show x.del = false ∨ x.del = true by cases x.del <;> simp) with hd | hd
      all_goals rw [hd] at a0
      rotate_left
      focus
        go_upto_region 12 with ((go_at_call 18; refine HD.out.mono ?_; clear HD; rintro e3 w3 ⟨T3, rfl, ha3, hn3⟩; obtain ⟨L3, hL3⟩ : ∃ L3, L3 = remL L x.k := ⟨_, rfl⟩; rw [← hL3] at hn3; have HA3 := Lib.hid ha3; have HN3 := Lib.hid hn3; clear ha3 hn3 a0 a1 a2 a3 a4 HP hL3))
      rotate_left
      focus
        go_upto_region 11 with (fail)
        refine wp_region_canon [(0, false, 11), (1, false, 11), (2, false, 11), (3, false, 11), (4, false, 11), (5, false, 11), (6, false, 11), (7, false, 11), (8, false, 11), (9, false, 11), (10, false, 11), (11, true, 0)] (by kernel_rfl) (by kernel_rfl) ?_
        iterate 11 (refine wpCan_read rfl rfl (fun K hK => ?_); go_simp; refine hK _ ?_; clear hK K)
        refine wpCan_eff rfl ?_
        refine wpList_do rfl (fun K hK => ?_)
        go_simp
        refine HP.out.mono ?_
        rintro e3 w3 ⟨T3, rfl, ha3, hn3⟩
        obtain ⟨L3, hL3⟩ : ∃ L3, L3 = putL L x.k x.v := ⟨_, rfl⟩
        rw [← hL3] at hn3
        have HA3 := Lib.hid ha3
        have HN3 := Lib.hid hn3
        clear ha3 hn3 a0 a1 a2 a3 a4 HP HD hL3
        refine hK _ _ ?_
        clear hK K
        refine wpList_nil ?_
        refine And.intro ?_ ?_
        · go_simp
        refine wpCan_nil ?_
        go_upto_region 12 with (fail)
      all_goals
        have HG3 := Lib.hid HN3.out.good
        have HS3 := Lib.hid (HN3.out.small HSM.out)
        have hsh := HG3.out.shape
        obtain ⟨b1, b2, b3⟩ := HS3.out.bound (by omega)
        have hmany := HG3.out.many
        have hlen := HS3.out.len
        have hroom := HN3.out.room
        have hgrow := HN3.out.grow
        have HLEN := Lib.hid (Len_ok HA3.out)
        have HDEP := Lib.hid (Depth_ok HA3.out)
        have HUSE := Lib.hid (Used_ok (by omega) hsh.free HA3.out)
        have hfree := hsh.free
        have hused := hsh.used
        have hdep := hsh.depth
        have HROOM := Lib.hid (fun (W : World) (hW : TreeA w (heapOf w) W t T3 []) => Room_ok hW)
        have HUSE2 := Lib.hid (fun (W : World) (hW : TreeA w (heapOf w) W t T3 []) => Used_ok (by omega) hsh.free hW)
        have hM := HM.out
        have HRUN := Lib.hid (show ∀ W, TreeA w (heapOf w) W t T3 [] → RunsM w W (heapOf w) t (j + 1) (T3.nodes.length : Int) from fun W hW => ⟨T3, L3, HG3.out, HS3.out, rfl, hW⟩)
        have hmax : (M = (T3.nodes.length : Int) ∧ (T3.nodes.length : Int) - T3.free.length ≤ M) ∨ (M < (T3.nodes.length : Int) - T3.free.length ∧ T3.free.length = 0) := by
          rcases hroom with h | h
          · left; omega
          · have hf0 : T3.free.length = 0 := by rw [h]; rfl
            by_cases hc : T3.nodes.length = T.nodes.length
            · left; omega
            · right; omega
        have hcase : (T3.k.many = 0 ∧ T3.k.depth = 0 ∧ T3.nodes.length = T3.free.length) ∨ (∃ (n e : Nat), T3.k.many = (n : Int) ∧ T3.k.depth = (e : Int) + 1 ∧ 1 ≤ n ∧ e ≤ 7 ∧ 2 ^ e ≤ n ∧ T3.free.length + 1 ≤ T3.nodes.length ∧ T3.nodes.length ≤ T3.free.length + n) := by
          rcases hdep with ⟨h1, h2, h3⟩ | ⟨h1, h2, e, h3, h4⟩
          · left; rw [hmany, h1]; exact ⟨rfl, h2, h3⟩
          · right; exact ⟨L3.length, e, hmany, h3, h1, pow_small h4 (by omega), h4, h2, hused⟩
        clear hsh hmany hlen hroom hgrow hdep hM hused
        revert HLEN HDEP HUSE HROOM HUSE2 HRUN
        generalize T3.k.many = many at *
        generalize T3.k.depth = depth at *
        generalize T3.nodes.length = N at *
        generalize T3.free.length = F at *
        intro HLEN HDEP HUSE HROOM HUSE2 HRUN
        go_upto_region 15 with (first | (go_at_call 20; refine HLEN.out.mono ?_; rintro e4 w4 ⟨rfl, rfl⟩) | (go_at_call 21; refine HDEP.out.mono ?_; rintro e5 w5 ⟨rfl, rfl⟩) | (go_at_call 22; refine HUSE.out.mono ?_; rintro e6 w6 ⟨rfl, hk6⟩; have HA6 := Lib.hid (HA3.out.kept hk6); clear hk6))
        have hmx : (if M < (N : Int) - (F : Int) then (N : Int) - (F : Int) else M) = (N : Int) := by
          clear hcase
          split <;> omega
        rw [hmx]
        clear hmx hmax HLEN HDEP HUSE b2 b3
        rcases hcase with ⟨rfl, rfl, rfl⟩ | ⟨n, e, rfl, rfl, hn1, he7, hpn, hfn, hnn⟩
        · have hz : (N : Int) - (N : Int) = 0 := by omega
          go_wp2_with (first | (go_at_call 22; refine (HUSE2.out _ HA6.out).mono ?_; rintro e7 w7 ⟨rfl, hk7⟩; have HA6 := Lib.hid (HA6.out.kept hk7); clear hk7) | (go_at_call 23; refine (HROOM.out _ HA6.out).mono ?_; rintro e8 w8 ⟨rfl, rfl⟩))
          exact ⟨⟨j + 1, N, rfl, by simp, by omega, by omega, HRUN.out _ HA6.out⟩, by simp [intOf]; omega⟩
        · have hz1 : ¬ ((N : Int) - (F : Int) = 0) := by omega
          have hz2 : ¬ ((n : Int) = 0) := by omega
          have hz3 : ¬ ((e : Int) + 1 = 0) := by omega
          have hz4 : ¬ ((e : Int) + 1 < 0) := by omega
          have hz5 : ¬ ((e : Int) + 1 > 40) := by omega
          have hz6 : ¬ ((N : Int) - (F : Int) > (n : Int)) := by omega
          have hz7 : (e : Int) + 1 > 0 := by omega
          have hz8 : IntKind.i64.wrap ((e : Int) + 1 - 1) = (e : Int) := by rw [show (e : Int) + 1 - 1 = e by omega]; exact i64w _ (by omega) (by omega)
          have hz9 : ¬ ((n : Int) < ((2 ^ e : Nat) : Int)) := by omega
          go_wp2_with (first | (go_at_call 22; refine (HUSE2.out _ HA6.out).mono ?_; rintro e7 w7 ⟨rfl, hk7⟩; have HA6 := Lib.hid (HA6.out.kept hk7); clear hk7) | (go_at_call 23; refine (HROOM.out _ HA6.out).mono ?_; rintro e8 w8 ⟨rfl, rfl⟩))
          all_goals first
            | exact ⟨⟨j + 1, N, rfl, by simp, by omega, by omega, HRUN.out _ HA6.out⟩, by simp [intOf]; omega⟩
            | (rename_i h; exact absurd ((beq_eq_false_iff_ne.2 (by omega)).trans (beq_eq_false_iff_ne.2 (by omega)).symm) h)
            | (exfalso
               have hw := shl_one e he7
               generalize wrap64 (2 ^ e) = W at *
               generalize 2 ^ e = q at *
               omega)
    · have HA3 := Lib.hid hA
      clear hG hS hA hM
      have hcut : ¬ (j : Int) < (NA : Int) ∨ ((j : Int) < (NA : Int) ∧ ¬ (j : Int) < 200) := by omega
      rcases hcut with hcut | ⟨hcut1, hcut2⟩
      all_goals
        go_wp2_with fail
        go_ret
        exact ⟨rfl, HA3.out.end_ (PH.le.refl _)⟩
end Go.Proofs.Ytjijemeabfiipaa
