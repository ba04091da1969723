/- StoreOwn: what a store tells is new memory, what is told to it isn't kept. -/
import Derived.Test.YtcbklkcpjldcjaaJ34
namespace Go.Proofs.Ytcbklkcpjldcjaa
open Go.ChangeShapes Go.WideShapes Go.ChangeAt Go.RowKit
set_option maxRecDepth 100000
set_option linter.unusedSimpArgs false

def ow0 (k v : Val) : StM := newM [[k.t, v.t]] 3
def ow1 (k v : Val) : StM := ((ow0 k v).ins 0 [k, v]).1
theorem ow0_good (k v : Val) : StI 0 (ow0 k v) := newM_good (by unfold mayNew; simp [mayT])
theorem ow1_good (k v : Val) : StI 1 (ow1 k v) := (ow0_good k v).ins 0 [k, v]
theorem ow_fits (k v : Val) : (ow0 k v).fits 0 [k, v] = (valRight k && valRight v) := by
  unfold StM.fits ow0 newM StM.has fitsT fitAt mayT
  simp
theorem ow_no {k v : Val} (h : (valRight k && valRight v) = false) : (ow0 k v).ins 0 [k, v] = (ow0 k v, 0, 1) ∧ fitsT [k.t, v.t] [k, v] = false := by
  have hf := ow_fits k v
  rw [h] at hf
  refine ⟨by unfold StM.ins; rw [hf]; rfl, ?_⟩
  unfold StM.fits ow0 newM StM.has at hf
  simpa using hf
theorem ow_yes {k v : Val} (h : (valRight k && valRight v) = true) : (ow0 k v).ins 0 [k, v] = (ow1 k v, 1, 0) ∧ fitsT [k.t, v.t] [k, v] = true ∧ gotM (ow1 k v) 0 k = true ∧ gnum (ow1 k v) 0 k = 1 ∧ grow (ow1 k v) 0 k = [k, v] ∧ scanA (ow1 k v) 0 spn0 = [[k, v]] := by
  have hf := ow_fits k v
  rw [h] at hf
  have hft : fitsT [k.t, v.t] [k, v] = true := by
    unfold StM.fits ow0 newM StM.has at hf
    simpa using hf
  have hi : (ow0 k v).ins 0 [k, v] = (⟨[[k.t, v.t]], [[(k, plB false 1 [k, v])]], 3, 1, 1⟩, 1, 0) := by
    unfold StM.ins
    rw [hf]
    rfl
  have h1 : ow1 k v = ⟨[[k.t, v.t]], [[(k, plB false 1 [k, v])]], 3, 1, 1⟩ := by unfold ow1; rw [hi]
  have hat : atM [(k, plB false 1 [k, v])] k = some (plB false 1 [k, v]) := by unfold atM findM; simp
  have htab : (ow1 k v).tab 0 = [(k, plB false 1 [k, v])] := by rw [h1]; rfl
  have hgot : gotM (ow1 k v) 0 k = true := by unfold gotM takenM; rw [htab, hat, h1]; rfl
  refine ⟨by rw [hi, h1], hft, hgot, ?_, ?_, ?_⟩
  · unfold gnum slotM; rw [hgot, htab, hat]; rfl
  · unfold grow rowM; rw [hgot, htab, hat]; rfl
  · unfold scanA; rw [htab]; rfl

set_option maxHeartbeats 8000000 in
theorem own_ok (k v : Val) (w : World) : Calls Try.prog 3 #[k.v, v.v] w fun e w' => e = .returned (.bool true) ∧ Kept (fun _ => False) w w' := by
  have hs0 := ((Sat.start w).alloc #[.bool k.t, .int .i64 k.n, .string k.s] tV).alloc #[.bool v.t, .int .i64 v.n, .string v.s] tV
  rw [World.size_alloc] at hs0
  have HS0 := Lib.hid hs0
  clear hs0
  dsimp only [Val.v]
  go_enter Try.func3, Try.ntmps3
  go_upto_region 1 with fail
  obtain ⟨W0, hW0, hs0⟩ := Sat.hide HS0.out
  rw [← hW0]
  generalize w.heap.size + 1 = bv at hs0 ⊢
  generalize w.heap.size = bk at hs0 ⊢
  clear hW0 HS0
  have HS0 := Lib.hid hs0
  clear hs0
  go_upto_region 4 with (go_at_call 9; refine (awake_ok _).mono ?_; rintro e1 w1 ⟨rfl, hk1⟩; have HS1 := Lib.hid (HS0.out.kept hk1); clear hk1)
  obtain ⟨y0, y1, y2, yf⟩ := cells3 (HS1.out.blk 0 rfl)
  obtain ⟨x0, x1, x2, xf⟩ := cells3 (HS1.out.blk 1 rfl)
  have hs2 := (HS1.out.alloc #[.bool k.t, .bool v.t] tB).alloc #[.slice (some ⟨w1.heap.size, 0, none⟩) 2 2] tTab
  rw [World.size_alloc] at hs2
  have HS2 := Lib.hid hs2
  clear hs2
  go_upto_region 5 with fail
  obtain ⟨W2, hW2, hs2⟩ := Sat.hide HS2.out
  rw [← hW2]
  generalize w1.heap.size + 1 = bt at hs2 ⊢
  generalize w1.heap.size = bc at hs2 ⊢
  clear hW2 HS2 HS1 HS0 y0 y1 y2 yf x0 x1 x2 xf
  obtain ⟨t0, tf⟩ := cells1 (hs2.blk 0 rfl)
  have HS3 := Lib.hid (hs2.alloc #[.slice (some ⟨bc, 0, none⟩) 2 2] tTab).swap
  have HNEW := Lib.hid (SNew_ok (cv := .slice (some ⟨W2.heap.size, 0, none⟩) 1 1) (cs := [[k.t, v.t]]) 3 (fun W X h => tabs_one (c := [k.t, v.t]) (X := X ++ [blk bt #[.slice (some ⟨bc, 0, none⟩) 2 2] tTab]) (by simp) (by rw [List.append_assoc]; exact h)) HS3.out)
  clear hs2
  go_upto_region 6 with (go_at_call 10; refine HNEW.out.mono ?_; intro e3 w3 h3; obtain ⟨s, rfl, hs3⟩ := new_yes (by unfold mayNew; simp [mayT]) h3; have HS4 := Lib.hid hs3; clear h3 hs3 t0 tf)
  have hs4 : Sat w (heapOf w) w3 [storeB s 0 (ow0 k v), blk bt #[.slice (some ⟨bc, 0, none⟩) 2 2] tTab, blk bc #[.bool k.t, .bool v.t] tB, blk bv #[.bool v.t, .int .i64 v.n, .string v.s] tV, blk bk #[.bool k.t, .int .i64 k.n, .string k.s] tV] := (HS4.out.front 2 rfl).drop
  clear HS4 HNEW HS3
  obtain ⟨y0, y1, y2, yf⟩ := cells3 (hs4.blk 3 rfl)
  obtain ⟨x0, x1, x2, xf⟩ := cells3 (hs4.blk 4 rfl)
  have hs5 := hs4.own_fresh (e := tV) (size := 3) (n := 2) (cap := 2) (cs := #[.bool k.t, .int .i64 k.n, .string k.s, .bool v.t, .int .i64 v.n, .string v.s]) (xs := [k, v].flatMap Val.cells) (by omega) (by unfold maxLen; omega) (by simp) rfl (fun u hu => by obtain ⟨x, _, hx⟩ := List.mem_flatMap.1 hu; exact Val.one x u hx)
  have HS5 := Lib.hid hs5.swap
  clear hs4 hs5
  go_upto_region 7 with fail
  obtain ⟨W5, hW5, hs5⟩ := Sat.hide HS5.out
  rw [← hW5]
  generalize w3.heap.size = gr at hs5 ⊢
  clear hW5 HS5 y0 y1 y2 yf x0 x1 x2 xf
  have HS5 := Lib.hid hs5
  clear hs5
  have HIN := Lib.hid (Insert_ok (A := ow0 k v) (r := [k, v]) 0 (ow0_good k v) (by omega) row_in HS5.out)
  cases hv : (valRight k && valRight v)
  · obtain ⟨q1, q2⟩ := ow_no hv
    have Q1 := Lib.hid q1
    have Q2 := Lib.hid q2
    clear q1 q2 hv
    go_upto_region 8 with (go_at_call 11; refine HIN.out.mono ?_; rw [Q1.out]; rintro e6 w6 ⟨rfl, hs6⟩; have HS6 := Lib.hid hs6; clear hs6)
    obtain ⟨t0, tf⟩ := cells1 (HS6.out.blk 2 rfl)
    have HFT := Lib.hid (rfits_ok (c := [k.t, v.t]) (r := [k, v]) (rd_block (size := 1) (n := 2) (HS6.out.blk 3 rfl) rfl (by unfold maxLen; omega)) (HS6.out.own 1 rfl).rd)
    have HU := Lib.hid (fun (W : World) (h : Kept (fun _ => False) w6 W) => Used_ok (HS6.out.kept h))
    have Q3 := Lib.hid (show (ow0 k v).used = 0 from rfl)
    go_wp2_with (first | (go_at_call 12; refine HFT.out.mono ?_; rw [Q2.out]; rintro e7 w7 ⟨rfl, hk7⟩; have HK7 := Lib.hid hk7; clear hk7 t0 tf) | (go_at_call 13; refine (HU.out _ HK7.out).mono ?_; rw [Q3.out]; rintro e8 w8 ⟨rfl, rfl⟩))
    go_ret
    exact ⟨rfl, (HS6.out.kept HK7.out).drop.drop.drop.drop.drop.drop.end_ (PH.le.refl _)⟩
  · obtain ⟨q1, q2, q3, q4, q5, q6⟩ := ow_yes hv
    have Q1 := Lib.hid q1
    have Q2 := Lib.hid q2
    have Q3 := Lib.hid q3
    have Q4 := Lib.hid q4
    have Q5 := Lib.hid q5
    have Q6 := Lib.hid q6
    clear q1 q2 q3 q4 q5 q6 hv
    go_upto_region 8 with (go_at_call 11; refine HIN.out.mono ?_; rw [Q1.out]; rintro e6 w6 ⟨rfl, hs6⟩; have HS6 := Lib.hid hs6; clear hs6)
    obtain ⟨t0, tf⟩ := cells1 (HS6.out.blk 2 rfl)
    have HFT := Lib.hid (rfits_ok (c := [k.t, v.t]) (r := [k, v]) (rd_block (size := 1) (n := 2) (HS6.out.blk 3 rfl) rfl (by unfold maxLen; omega)) (HS6.out.own 1 rfl).rd)
    clear HIN HS5
    go_upto_region 10 with (go_at_call 12; refine HFT.out.mono ?_; rw [Q2.out]; rintro e7 w7 ⟨rfl, hk7⟩; have HS7 := Lib.hid (HS6.out.kept hk7); clear hk7 t0 tf)
    -- the row that was told is written
    have hs7 : Sat w (heapOf w) w7 [ownS tV 3 (.slice (some ⟨gr, 0, none⟩) 2 2) 2 ([k, v].flatMap Val.cells), storeB s 1 (ow1 k v), blk bt #[.slice (some ⟨bc, 0, none⟩) 2 2] tTab, blk bc #[.bool k.t, .bool v.t] tB, blk bv #[.bool v.t, .int .i64 v.n, .string v.s] tV, blk bk #[.bool k.t, .int .i64 k.n, .string k.s] tV] := HS7.out.swap
    clear HFT HS6 HS7
    obtain ⟨x0, x1, x2, xf⟩ := cells3 (hs7.blk 5 rfl)
    have hown := hs7.own 0 rfl
    have g3 := hown.cells 3 _ rfl
    have g4 := hown.cells 4 _ rfl
    have g5 := hown.cells 5 _ rfl
    obtain ⟨_, _, hrr⟩ := hown.row
    have gf := hrr.frozen
    have HS8 := Lib.hid (((hs7.own_set 3 (.bool k.t) rfl).own_set 4 (.int .i64 k.n) rfl).own_set 5 (.string k.s) rfl)
    clear hs7 hown hrr
    go_upto_region 11 with fail
    obtain ⟨W8, hW8, hs8⟩ := Sat.hide HS8.out
    rw [← hW8]
    clear hW8 HS8 x0 x1 x2 xf g3 g4 g5 gf
    have hs8 : Sat w (heapOf w) W8 [storeB s 1 (ow1 k v), blk bv #[.bool v.t, .int .i64 v.n, .string v.s] tV, blk bk #[.bool k.t, .int .i64 k.n, .string k.s] tV] := hs8.drop.swap.drop.swap.drop
    obtain ⟨x0, x1, x2, xf⟩ := cells3 (hs8.blk 2 rfl)
    have HS8 := Lib.hid hs8
    clear hs8
    go_upto_region 14 with (go_at_call 14; refine (Get_okB (A := ow1 k v) 0 k (ow1_good k v) HS8.out).mono ?_; rw [Q3.out, Q4.out, Q5.out]; rintro e9 w9 ⟨v9, rfl, hs9⟩; obtain ⟨a9, c9, rfl⟩ := hs9.own_shape; have HS9 := Lib.hid hs9; clear hs9 x0 x1 x2 xf)
    obtain ⟨g9, c9', hv9, _, _⟩ := some_shape (HS9.out.own 0 rfl) (by simp)
    rw [Value.slice.injEq] at hv9
    obtain ⟨rfl, -, rfl⟩ := hv9
    have hs9 := HS9.out
    obtain ⟨x0, x1, x2, xf⟩ := cells3 (hs9.blk 3 rfl)
    have hown := hs9.own 0 rfl
    have g3 := hown.cells 3 _ rfl
    have g4 := hown.cells 4 _ rfl
    have g5 := hown.cells 5 _ rfl
    obtain ⟨_, _, hrr⟩ := hown.row
    have gf := hrr.frozen
    have HS10 := Lib.hid (((hs9.own_set 3 (.bool k.t) rfl).own_set 4 (.int .i64 k.n) rfl).own_set 5 (.string k.s) rfl)
    clear hs9 hown hrr
    go_upto_region 15 with fail
    obtain ⟨W10, hW10, hs10⟩ := Sat.hide HS10.out
    rw [← hW10]
    clear hW10 HS10 HS9 HS8 x0 x1 x2 xf g3 g4 g5 gf
    have HS11 := Lib.hid (show Sat w (heapOf w) W10 [storeB s 1 (ow1 k v), blk bv #[.bool v.t, .int .i64 v.n, .string v.s] tV, blk bk #[.bool k.t, .int .i64 k.n, .string k.s] tV] from hs10.drop)
    clear hs10
    go_upto_region 16 with (go_at_call 15; refine (rows_ok 0 spn0 (ow1_good k v) HS11.out).mono ?_; rw [Q6.out]; rintro e12 w12 ⟨v12, rfl, hs12⟩; have HS12 := Lib.hid hs12; clear hs12)
    obtain ⟨xs, hxs, hs12⟩ := Sat.open_ex HS12.out
    obtain ⟨⟨xr, xo, xn, xc⟩, rfl⟩ : ∃ x : RowE, xs = [x] := by
      cases xs with
      | nil => exact absurd (congrArg List.length hxs) (by simp)
      | cons x xs => cases xs with
        | nil => exact ⟨x, rfl⟩
        | cons y xs => exact absurd (congrArg List.length hxs) (by simp)
    obtain rfl : xr = [k, v] := by simpa using hxs
    have hs13 : Sat w (heapOf w) w12 [ownS tV 3 (.slice xo xn xc) 2 ([k, v].flatMap Val.cells), ownS tR 1 v12 1 [.slice xo xn xc], storeB s 1 (ow1 k v), blk bv #[.bool v.t, .int .i64 v.n, .string v.s] tV, blk bk #[.bool k.t, .int .i64 k.n, .string k.s] tV] := (hs12.swap.ungroup (L := [rowP ⟨[k, v], xo, xn, xc⟩]))
    obtain ⟨g13, c13, hv13, _, _⟩ := some_shape (hs13.own 0 rfl) (by omega)
    rw [Value.slice.injEq] at hv13
    obtain ⟨rfl, rfl, rfl⟩ := hv13
    obtain ⟨g14, c14, hv14, _, _⟩ := some_shape (hs13.own 1 rfl) (by omega)
    subst hv14
    have l0 := (hs13.own 1 rfl).cells 0 _ rfl
    obtain ⟨x0, x1, x2, xf⟩ := cells3 (hs13.blk 4 rfl)
    have hown := hs13.own 0 rfl
    have g3 := hown.cells 3 _ rfl
    have g4 := hown.cells 4 _ rfl
    have g5 := hown.cells 5 _ rfl
    obtain ⟨_, _, hrr⟩ := hown.row
    have gf := hrr.frozen
    have HS14 := Lib.hid (((hs13.own_set 3 (.bool k.t) rfl).own_set 4 (.int .i64 k.n) rfl).own_set 5 (.string k.s) rfl).drew
    clear hs12 hs13 hown hrr HS12 HS11 hxs
    go_upto_region 18 with fail
    refine wp_region_canon [(0, false, 5), (1, false, 5), (2, false, 5), (3, false, 5), (4, false, 5), (5, true, 0)] (by kernel_rfl) (by kernel_rfl) ?_
    iterate 5 (refine wpCan_read rfl rfl (fun K hK => ?_); go_simp; refine hK _ ?_; clear hK K)
    refine wpCan_eff rfl ?_
    refine wpList_plain rfl (fun K hK => ?_)
    go_simp
    refine hK _ _ ?_
    clear hK K
    refine wpList_nil ?_
    refine And.intro ?_ ?_
    · go_simp
    refine wpCan_nil ?_
    go_upto_region 19 with fail
    obtain ⟨W14, hW14, hs14⟩ := Sat.hide HS14.out
    rw [← hW14]
    clear hW14 HS14 x0 x1 x2 xf g3 g4 g5 gf l0
    have hs15 : Sat w (heapOf w) W14 [storeB s 1 (ow1 k v), blk bv #[.bool v.t, .int .i64 v.n, .string v.s] tV, blk bk #[.bool k.t, .int .i64 k.n, .string k.s] tV] := hs14.drop.drop
    obtain ⟨x0, x1, x2, xf⟩ := cells3 (hs15.blk 2 rfl)
    have HS15 := Lib.hid hs15
    clear hs14 hs15
    go_upto_region 20 with (go_at_call 14; refine (Get_okB (A := ow1 k v) 0 k (ow1_good k v) HS15.out).mono ?_; rw [Q3.out, Q4.out, Q5.out]; rintro e16 w16 ⟨v16, rfl, hs16⟩; obtain ⟨a16, c16, rfl⟩ := hs16.own_shape; have HS16 := Lib.hid hs16; clear hs16 x0 x1 x2 xf)
    obtain ⟨y0, y1, y2, yf⟩ := cells3 (HS16.out.blk 2 rfl)
    obtain ⟨x0, x1, x2, xf⟩ := cells3 (HS16.out.blk 3 rfl)
    have hs17 := HS16.out.own_fresh (e := tV) (size := 3) (n := 2) (cap := 2) (cs := #[.bool k.t, .int .i64 k.n, .string k.s, .bool v.t, .int .i64 v.n, .string v.s]) (xs := [k, v].flatMap Val.cells) (by omega) (by unfold maxLen; omega) (by simp) rfl (fun u hu => by obtain ⟨x, _, hx⟩ := List.mem_flatMap.1 hu; exact Val.one x u hx)
    have HSM := Lib.hid (rsame_ok (l1 := [k, v]) (l2 := [k, v]) (hs17.own 1 rfl).rd (hs17.own 0 rfl).rd)
    have HS17 := Lib.hid hs17
    clear hs17
    go_wp2_with (go_at_call 16; refine HSM.out.mono ?_; rw [decide_eq_true (Eq.refl [k, v])]; rintro e18 w18 ⟨rfl, n18, hn18⟩; have HS18 := Lib.hid (HS17.out.kept (w' := w18) (by rw [hn18]; exact (Kept.refl _ _).drewN _)); clear hn18)
    go_ret
    exact ⟨rfl, HS18.out.drop.drop.drop.drop.drop.end_ (PH.le.refl _)⟩
end Go.Proofs.Ytcbklkcpjldcjaa
