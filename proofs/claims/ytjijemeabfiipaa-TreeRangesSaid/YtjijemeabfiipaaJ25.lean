/- TreeChanges: what is put or deleted at one key changes nothing at another one. -/
import Derived.Test.YtjijemeabfiipaaJ22
import Derived.Test.YtjijemeabfiipaaJ24
namespace Go.Proofs.Ytjijemeabfiipaa
open Go.ChangeShapes Go.WideShapes Go.ChangeAt Go.RowKit
set_option maxRecDepth 100000
set_option linter.unusedSimpArgs false

abbrev tAct : TypeId := 31
abbrev ActT.val (a : ActT) : Value := .agg #[.bool a.del, .bool a.k.t, .int .i64 a.k.n, .string a.k.s, .int .i64 a.v]

set_option maxHeartbeats 4000000 in
theorem changes_ok {w : World} {sv : Value} {acts : List ActT} (a : ActT) (k : Val) (hx : ActsRd w sv acts) :
    Calls Try.prog 8 #[sv, a.val, k.v] w fun e w' => e = .returned (.bool true) ∧ Kept (fun _ => False) w w' := by
  obtain ⟨w0, hw0⟩ : ∃ w0, w0 = w.alloc (.cells #[.bool a.del, .bool a.k.t, .int .i64 a.k.n, .string a.k.s, .int .i64 a.v] tAct) := ⟨_, rfl⟩
  obtain ⟨wa, hwa⟩ : ∃ wa, wa = w0.alloc (.cells #[.bool k.t, .int .i64 k.n, .string k.s] tV) := ⟨_, rfl⟩
  have hk0 : Kept (fun _ => False) w w0 := by rw [hw0]; exact (Kept.refl _ _).alloc _
  have hk1 : Kept (fun _ => False) w0 wa := by rw [hwa]; exact (Kept.refl _ _).alloc _
  have hb0 : w0.heap[w.heap.size]? = some (.cells #[.bool a.del, .bool a.k.t, .int .i64 a.k.n, .string a.k.s, .int .i64 a.v] tAct (0, 0)) := by rw [hw0]; exact heap_alloc_self w _
  have hb1 : wa.heap[w0.heap.size]? = some (.cells #[.bool k.t, .int .i64 k.n, .string k.s] tV (0, 0)) := by rw [hwa]; exact heap_alloc_self w0 _
  have hsz : w0.heap.size = w.heap.size + 1 := by rw [hw0]; simp
  rw [hsz] at hb1
  have HBA := Lib.hid ((hk1.block _ (lt_of_heap hb0) (fun h => h)).trans hb0)
  have HBK := Lib.hid hb1
  have HK := Lib.hid (hk0.trans hk1 (fun _ h => h.elim))
  obtain ⟨_, m1, ao, cap, rfl, hcap, hcap2, hao, _⟩ := id hx
  have HX := Lib.hid (hx.kept HK.out (fun _ _ h => h))
  obtain ⟨NA, hNA⟩ : ∃ NA, acts.length = NA := ⟨_, rfl⟩
  have HNA := Lib.hid hNA
  unfold ActsRd at HX
  rw [hNA] at m1 hcap HX ⊢
  unfold maxLen at m1 hcap2
  have HW := Lib.hid (And.intro hw0 (And.intro hwa hsz))
  clear hk0 hk1 hb0 hb1 hsz hw0 hwa hx hNA
  dsimp only [ActT.val, Val.v]
  go_enter Try.func8, Try.ntmps8
  go_upto_region 1 with (fail)
  rw [← HW.out.1, ← HW.out.2.1]
  clear HW
  revert HBA HBK
  generalize w.heap.size = bs
  intro HBA HBK
  go_upto_region 4 with ((go_at_call 10; refine (awake_ok _).mono ?_; rintro e1 w1 ⟨rfl, hk1⟩; have HK1 := Lib.hid hk1; have HS1 := Lib.hid ((Sat.start wa).kept hk1); clear hk1))
  obtain ⟨x0, x1, x2, x3, x4, xf⟩ := cells5 ((HK1.out.block _ (lt_of_heap HBA.out) (fun h => h)).trans HBA.out)
  obtain ⟨y0, y1, y2, yf⟩ := cells3 ((HK1.out.block _ (lt_of_heap HBK.out) (fun h => h)).trans HBK.out)
  by_cases hak : a.k = k
  · have hv : valEqB a.k.t a.k.n a.k.s k.t k.n k.s = true := by rw [valEqB_val]; exact decide_eq_true hak
    go_wp2_with (fail)
    go_ret
    exact ⟨rfl, HK.out.trans HK1.out (fun _ h => h.elim)⟩
  · have hv : valEqB a.k.t a.k.n a.k.s k.t k.n k.s = false := by rw [valEqB_val]; exact decide_eq_false hak
    have HAK := Lib.hid hak
    clear hak
    go_upto_region 7 with ((go_at_call 11; refine (New_ok HS1.out).mono ?_; rintro e2 w2 ⟨t, rfl, ha⟩; have HA := Lib.hid ha; clear ha))
    clear x0 x1 x2 x3 x4 xf y0 y1 y2 yf
    go_wp2_with fail
    go_loopw [9] (fun idx wr => ∃ j : Nat, idx = .int .i64 j ∧ j ≤ NA ∧ j ≤ 120 ∧ Runs wa wr (heapOf wa) t j []) (fun idx _ => NA - (intOf idx).toNat)
    case atStart => exact ⟨0, rfl, Nat.zero_le _, Nat.zero_le _, _, _, good_empty, small_empty, HA.out⟩
    case round =>
      obtain ⟨j, rfl, hjN, hj1, T, L, hG, hS, hA⟩ := hrel
      by_cases hlt : j < NA ∧ j < 120
      · obtain ⟨hlt1, hlt2⟩ := hlt
        obtain ⟨x, hx⟩ : ∃ x, acts[j]? = some x := ⟨acts[j]'(by rw [HNA.out]; exact hlt1), List.getElem?_eq_getElem _⟩
        have hrd := HX.out.kept (hA.end_ (PH.le.refl _)) (fun _ _ h => h)
        obtain ⟨og, oo, rfl⟩ : ∃ og oo, ao = some ⟨og, oo, none⟩ := by
          rcases hrd.2.2 with ⟨_, _, hv, _, _, _, hc⟩
          cases hv
          rcases hc with h0 | ⟨g, o, hg, _⟩
          · omega
          · exact ⟨g, o, hg⟩
        obtain ⟨a0, a1, a2, a3, a4⟩ := act_cells hrd hx
        have hi1 : (j : Int) < (NA : Int) := by omega
        have hi2 : (j : Int) < 120 := by omega
        have HP := Lib.hid (Put_ok x.k x.v hG hS (by omega) (hA.drew))
        have HSM := Lib.hid hS
        clear hG hS hA hrd
        go_upto_region 10 with (fail)
        refine wp_region_canon [(0, false, 11), (1, false, 11), (2, false, 11), (3, false, 11), (4, false, 11), (5, false, 11), (6, false, 11), (7, false, 11), (8, false, 11), (9, false, 11), (10, false, 11), (11, true, 0)] (by kernel_rfl) (by kernel_rfl) ?_
        iterate 11 (refine wpCan_read rfl rfl (fun K hK => ?_); go_simp; refine hK _ ?_; clear hK K)
        refine wpCan_eff rfl ?_
        refine wpList_do rfl (fun K hK => ?_)
        go_simp
        refine HP.out.mono ?_
        rintro e3 w3 ⟨T3, rfl, ha3, hn3⟩
        have HR3 := Lib.hid (show Runs wa w3 (heapOf wa) t (j + 1) [] from ⟨T3, _, hn3.good, hn3.small HSM.out, ha3⟩)
        clear ha3 hn3 a0 a1 a2 a3 a4 HP
        refine hK _ _ ?_
        clear hK K
        refine wpList_nil ?_
        refine And.intro ?_ ?_
        · go_simp
        refine wpCan_nil ?_
        go_wp2_with fail
        go_roundw
        case rel => exact ⟨j + 1, by go_num, by omega, by omega, HR3.out⟩
        case measure => simp [intOf]; omega
      · have HG := Lib.hid hG
        have HS := Lib.hid hS
        have HA3 := Lib.hid hA
        clear hG hS hA HA HS1 HK1
        have hcut : ¬ (j : Int) < (NA : Int) ∨ ((j : Int) < (NA : Int) ∧ ¬ (j : Int) < 120) := by omega
        clear hlt
        have hS0 := HS.out
        have hL0 : L.length ≤ 120 := by have := hS0.len; omega
        have HP0 := Lib.hid (And.intro (get_put (v := a.v) HG.out.sorted HG.out.right HAK.out) (And.intro (len_put (k := a.k) (v := a.v) HG.out.sorted) (rem_put L a.k a.v)))
        clear hS0
        rcases hcut with hcut | ⟨hcut1, hcut2⟩
        all_goals
          go_upto_region 11 with (fail)
          obtain ⟨x0, x1, x2, x3, x4, xf⟩ := cells5 (((HA3.out.end_ (PH.le.refl _)).block _ (lt_of_heap HBA.out) (fun h => h)).trans HBA.out)
          obtain ⟨y0, y1, y2, yf⟩ := cells3 (((HA3.out.end_ (PH.le.refl _)).block _ (lt_of_heap HBK.out) (fun h => h)).trans HBK.out)
          go_upto_region 12 with ((go_at_call 24; refine (Get_ok k HG.out HA3.out).mono ?_; rintro eg11 wg11 ⟨rfl, hk11⟩; have HA4 := Lib.hid (HA3.out.kept hk11); clear hk11 x0 x1 x2 x3 x4 xf y0 y1 y2 yf))
          obtain ⟨x0, x1, x2, x3, x4, xf⟩ := cells5 (((HA4.out.end_ (PH.le.refl _)).block _ (lt_of_heap HBA.out) (fun h => h)).trans HBA.out)
          obtain ⟨y0, y1, y2, yf⟩ := cells3 (((HA4.out.end_ (PH.le.refl _)).block _ (lt_of_heap HBK.out) (fun h => h)).trans HBK.out)
          have HL := Lib.hid HG.out.many
          go_upto_region 13 with ((go_at_call 20; refine (Len_ok HA4.out).mono ?_; rintro e5 w5 ⟨rfl, rfl⟩; rw [HL.out]))
          go_upto_region 14 with ((go_at_call 12; refine (Put_ok a.k a.v HG.out HS.out (by omega) HA4.out).mono ?_; rintro e6 w6 ⟨T1, rfl, ha6, hn6⟩; have HA6 := Lib.hid ha6; have HN6 := Lib.hid hn6; clear ha6 hn6 x0 x1 x2 x3 x4 xf y0 y1 y2 yf))
          obtain ⟨x0, x1, x2, x3, x4, xf⟩ := cells5 (((HA6.out.end_ (PH.le.refl _)).block _ (lt_of_heap HBA.out) (fun h => h)).trans HBA.out)
          obtain ⟨y0, y1, y2, yf⟩ := cells3 (((HA6.out.end_ (PH.le.refl _)).block _ (lt_of_heap HBK.out) (fun h => h)).trans HBK.out)
          go_upto_region 15 with ((go_at_call 24; refine (Get_ok k HN6.out.good HA6.out).mono ?_; rintro eg14 wg14 ⟨rfl, hk14⟩; have HA7 := Lib.hid (HA6.out.kept hk14); clear hk14 x0 x1 x2 x3 x4 xf y0 y1 y2 yf))
          obtain ⟨x0, x1, x2, x3, x4, xf⟩ := cells5 (((HA7.out.end_ (PH.le.refl _)).block _ (lt_of_heap HBA.out) (fun h => h)).trans HBA.out)
          obtain ⟨y0, y1, y2, yf⟩ := cells3 (((HA7.out.end_ (PH.le.refl _)).block _ (lt_of_heap HBK.out) (fun h => h)).trans HBK.out)
          have HL1 := Lib.hid HN6.out.good.many
          go_upto_region 16 with ((go_at_call 20; refine (Len_ok HA7.out).mono ?_; rintro e8 w8 ⟨rfl, rfl⟩; rw [HL1.out]))
          go_upto_region 17 with ((go_at_call 18; refine (Delete_ok a.k HN6.out.good (HN6.out.small HS.out) (by omega) HA7.out).mono ?_; rintro e9 w9 ⟨T2, rfl, ha9, hn9⟩; have HA9 := Lib.hid ha9; have HN9 := Lib.hid hn9; clear ha9 hn9 x0 x1 x2 x3 x4 xf y0 y1 y2 yf))
          obtain ⟨x0, x1, x2, x3, x4, xf⟩ := cells5 (((HA9.out.end_ (PH.le.refl _)).block _ (lt_of_heap HBA.out) (fun h => h)).trans HBA.out)
          obtain ⟨y0, y1, y2, yf⟩ := cells3 (((HA9.out.end_ (PH.le.refl _)).block _ (lt_of_heap HBK.out) (fun h => h)).trans HBK.out)
          go_upto_region 18 with ((go_at_call 24; refine (Get_ok k HN9.out.good HA9.out).mono ?_; rintro eg17 wg17 ⟨rfl, hk17⟩; have HA10 := Lib.hid (HA9.out.kept hk17); clear hk17 x0 x1 x2 x3 x4 xf y0 y1 y2 yf))
          obtain ⟨x0, x1, x2, x3, x4, xf⟩ := cells5 (((HA10.out.end_ (PH.le.refl _)).block _ (lt_of_heap HBA.out) (fun h => h)).trans HBA.out)
          obtain ⟨y0, y1, y2, yf⟩ := cells3 (((HA10.out.end_ (PH.le.refl _)).block _ (lt_of_heap HBK.out) (fun h => h)).trans HBK.out)
          go_upto_region 19 with ((go_at_call 26; refine (rright_ok a.k _).mono ?_; rintro e11 w11 ⟨rfl, hk11⟩; have HA11 := Lib.hid (HA10.out.kept hk11); clear hk11 x0 x1 x2 x3 x4 xf y0 y1 y2 yf))
          have hp := get_put (v := a.v) HG.out.sorted HG.out.right HAK.out
          have hr := get_rem (k' := a.k) HN6.out.good.sorted HN6.out.good.right HAK.out
          have e1 : getV (putL L a.k a.v) k = getV L k ∧ getB (putL L a.k a.v) k = getB L k := by unfold getV getB; rw [hp]; exact ⟨rfl, rfl⟩
          have e2 : getV (remL (putL L a.k a.v) a.k) k = getV L k ∧ getB (remL (putL L a.k a.v) a.k) k = getB L k := by unfold getV getB; rw [hr, hp]; exact ⟨rfl, rfl⟩
          rw [e2.1, e2.2, e1.1, e1.2, len_put HG.out.sorted, rem_put]
          clear hp hr e1 e2
          have hpr : putB L a.k = false ∨ (putB L a.k = true ∧ valRight a.k = true) := by
            cases hr : valRight a.k
            · exact .inl (put_right hr)
            · cases putB L a.k
              · exact .inl rfl
              · exact .inr ⟨rfl, rfl⟩
          have HE := Lib.hid ((HK.out.trans (HA11.out.end_ (PH.le.refl _)) (fun _ h => h.elim)))
          generalize getV L k = gv
          generalize getB L k = gb
          generalize L.length = n at hL0 ⊢
          revert hpr
          generalize putB L a.k = pb
          generalize valRight a.k = vr
          intro hpr
          rcases hpr with rfl | ⟨rfl, rfl⟩
          · have ew : ((n + if false = true then 1 else 0 : Nat) : Int) = (n : Int) := by simp
            rw [ew]
            rcases (show gb = false ∨ gb = true by cases gb <;> simp) with rfl | rfl <;> rcases (show vr = false ∨ vr = true by cases vr <;> simp) with rfl | rfl
            all_goals
              go_wp2_with fail
              go_ret
              exact ⟨rfl, HE.out⟩
          · have ew : ((n + if true = true then 1 else 0 : Nat) : Int) = (n : Int) + 1 := by simp
            rw [ew]
            have hw : IntKind.i64.wrap ((n : Int) + 1) = (n : Int) + 1 := i64w _ (by omega) (by omega)
            rcases (show gb = false ∨ gb = true by cases gb <;> simp) with rfl | rfl
            all_goals
              go_wp2_with fail
              go_ret
              exact ⟨rfl, HE.out⟩
end Go.Proofs.Ytjijemeabfiipaa
