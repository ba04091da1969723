/- An act over both queues (ratlinelaw10.done): they answer the same. (printed by genrqdone.py) -/
import Derived.Test.YtkdinhlmghfpeaaGreatDoorJ45
import Derived.Test.YtkdinhlmghfpeaaGreatDoorJ46
namespace Go.Proofs.YtkdinhlmghfpeaaGreatDoor
open Go.ChangeShapes Go.WideShapes Go.ChangeAt Go.RowKit
set_option maxRecDepth 100000
set_option linter.unusedSimpArgs false

theorem and7n (x : Int) : ∃ q : Nat, bits .and .i64 x 7 = (q : Int) ∧ q ≤ 7 := by
  have h : (BitVec.ofInt 64 x &&& BitVec.ofInt 64 7).toNat ≤ 7 := by
    rw [BitVec.toNat_and]
    exact Nat.and_le_right
  have e : bits .and .i64 x 7 = IntKind.i64.wrap ((BitVec.ofInt 64 x &&& BitVec.ofInt 64 7).toNat : Int) := rfl
  exact ⟨_, by rw [e, IntWalk.i64_in _ (by omega)], h⟩
theorem boxAct {w : World} {b : Nat} {a : ActE} {t : TypeId} {fr : Nat × Nat} (h : w.heap[b]? = some (.cells a.cells.toArray t fr)) : w.cell? ⟨b, 0, none⟩ = some (.int .i64 a.kind) ∧ w.cell? ⟨b, 1, none⟩ = some (.int .i64 a.owner) ∧ w.cell? ⟨b, 18, none⟩ = some (.int .i64 a.which) := by
  refine ⟨?_, ?_, ?_⟩ <;> simp [World.cell?, h, ActE.cells]
/-- what an act comes to -/
noncomputable def doneQ (Q : Qm Clm) (k o m : Int) (wh : Int) (c : Clm) : Qm Clm :=
  if k ≤ 3 then (askQ RC Q o c true).1 else if k = 4 then (askQ RC Q o c false).1 else if k = 5 then (leaveQ RC Q o).1 else if m = 7 then (dropQ RC Q (ofE o)).1 else (dropQ RC Q (goneP o ((holdsQ Q o).filter (someC wh)))).1
noncomputable def doneA (Q : Qm Clm) (a : ActE) : Qm Clm := doneQ Q (bits .and .i64 a.kind 7) (bits .and .i64 a.owner 7) (bits .and .i64 a.which 7) (bits .and .i64 a.which 3) a.x.c
def DoneGot (B : World) (D : PH) (l : List HP) (q : Nat) (Q' : Qm Clm) (r : Ending) (w' : World) : Prop := ∃ (v : Value) (D' : PH), r = .returned (.tuple #[v, .bool true]) ∧ PH.le D D' ∧ QueD D' v Q' ∧ Sat B D' w' (queC D' q Q' :: l)
set_option maxHeartbeats 32000000 in
theorem done_ok {B w : World} {D : PH} {l : List HP} {q n : Nat} {v : Value} {Q : Qm Clm} (a : ActE) (hE : EnvD D) (hq : QueD D v Q) (hsc : ScOk n Q) (hn : n ≤ 900) (ha : ClOk D a.x) (hf : ClmFit a.x.c) (hfew : fewB a.x.c = true) (s : Sat B D w (queC D q Q :: l)) :
    Calls Tryz.prog 27 #[.pointer (some ⟨q, 0, none⟩), v, .agg a.cells.toArray] w (DoneGot B D l q (doneA Q a)) := by
  have HQ := Lib.hid hq
  obtain ⟨hv, wv, hs, ws, rfl, hH, hW, hhq, hwq⟩ := hq
  obtain ⟨ha', hcp, rfl⟩ := hH.1.shape
  obtain ⟨wa, wc, rfl⟩ := hW.1.shape
  generalize hs.length = nh at *
  generalize ws.length = nw at *
  clear hH hW hhq hwq
  obtain ⟨W1, hW1, hs1⟩ := three_new s #[.slice ha' nh hcp, .slice wa nw wc] a.cells.toArray nQ tRq tAct tRq
  obtain ⟨on, hon, ho7⟩ := and7n a.owner
  obtain ⟨kn, hkn, hk7⟩ := and7n a.kind
  obtain ⟨mn, hmn, hm7⟩ := and7n a.which
  have HDA := Lib.hid (show doneA Q a = doneQ Q kn on mn (bits .and .i64 a.which 3) a.x.c by unfold doneA; rw [hkn, hon, hmn])
  have hM : Q.held.length + Q.waits.length ≤ 1000 := by have := hsc.len; omega
  have hh1 : Q.held.length ≤ 1000 := by omega
  have hw1 : Q.waits.length ≤ 1000 := by omega
  have hh2 : Q.held.length ≤ 100000 := by omega
  have HSM := Lib.hid (show ClmSm 1000000 a.x.c from (few_sm hfew).mono (by omega))
  have HQS := Lib.hid (show ∀ e ∈ Q.held, ClmSm 1000000 e.c from fun e he => (hsc.all.1 e he).sm (by omega))
  have HOK := Lib.hid hsc.ok
  have HE := Lib.hid hE
  have HA := Lib.hid ha
  have HF := Lib.hid hf
  have HW1 := Lib.hid hW1
  have HS1 := Lib.hid hs1
  clear s hs1 hW1 hsc hn ha hf hfew hE
  rcases (show kn ≤ 3 ∨ kn = 4 ∨ kn = 5 ∨ (6 ≤ kn ∧ mn = 7) ∨ (6 ≤ kn ∧ mn ≠ 7) by omega) with hk | hk | hk | ⟨hk, hm⟩ | ⟨hk, hm⟩
  · have HDQ := Lib.hid (show doneA Q a = (askQ RC Q (on : Int) a.x.c true).1 by rw [HDA.out]; unfold doneQ; rw [if_pos (by omega)])
    clear hmn
    rcases (show (kn : Int) = 0 ∨ (kn : Int) = 1 ∨ (kn : Int) = 2 ∨ (kn : Int) = 3 by omega) with h0 | h0 | h0 | h0
    all_goals
      rw [h0] at hkn
      clear h0 hk hk7 HDA
      go_enter Tryz.func27, Tryz.ntmps27
      go_upto_region 1 with fail
      rw [← HW1.out]
      clear HW1
      generalize w.heap.size + 1 + 1 = b3 at *
      generalize w.heap.size + 1 = b2 at *
      generalize w.heap.size = b1 at *
      obtain ⟨y0, y1, y18⟩ := boxAct (HS1.out.blk 1 rfl)
      go_upto_region 7 with fail
      clear y0 y1 y18 hkn hon
      have HLC := Lib.hid (loadCl (g := b2) (o := 2) (rangeAct (blk_range (HS1.out.blk 1 rfl))))
      have HP := Lib.hid (Ask_C (on : Int) a.x HE.out HA.out HSM.out HQS.out hh2 hw1 (HS1.out.front 3 rfl))
      clear HS1
      go_upto_region 8 with (first | (refine wpList_ld rfl _ _ rfl _ _ rfl _ HLC.out ?_) | (go_at_call 40; refine HP.out.mono ?_; rintro e5 w5 ⟨D5, rfl, hle5, hs5⟩; have HLE5 := Lib.hid hle5; have HS5 := Lib.hid hs5; clear hle5 hs5 HP HLC))
      have HLQ := Lib.hid (loadQ2 (blk_range (HS5.out.blk 1 rfl)))
      have HLC := Lib.hid (loadCl (g := b2) (o := 2) (rangeAct (blk_range (HS5.out.blk 2 rfl))))
      have HR := Lib.hid (rqAsk_ok (on : Int) a.x false HOK.out (HQ.out.mono HLE5.out) (HA.out.mono HLE5.out) HF.out HSM.out HQS.out hh1 hw1 HS5.out)
      rw [show (!false) = true from rfl] at HR
      go_upto_region 9 with (first | (refine wpList_ld rfl _ _ rfl _ _ rfl _ HLQ.out ?_) | (refine wpList_ld rfl _ _ rfl _ _ rfl _ HLC.out ?_) | (go_at_call 60; refine HR.out.mono ?_; rintro e6 w6 ⟨v6, D6, rfl, hle6, hq6, hs6⟩; have HQ6 := Lib.hid hq6; obtain ⟨hv2, wv2, hs2, ws2, rfl, hH2, hW2, _, _⟩ := hq6; have HO2 := Lib.hid (show ∀ u ∈ [hv2, wv2], u.oneCell' = true from fun u hu => by simp at hu; rcases hu with rfl | rfl; exact hH2.1.oneV; exact hW2.1.oneV); have HLE6 := Lib.hid hle6; have HS6 := Lib.hid (hs6.alloc #[hv2, wv2] tRq); clear hle6 hs6 hH2 hW2 HR HLQ HLC HS5) | (refine wpList_store_new rfl _ _ _ rfl [hv2, wv2] _ _ rfl rfl (by kernel_rfl) rfl HO2.out ?_))
      obtain ⟨W7, hW7, hs7⟩ := Sat.hide HS6.out
      rw [← hW7]
      clear hW7 HS6
      generalize w6.heap.size = bn at hs7 ⊢
      have HLN := Lib.hid (loadQ2 (blk_range (hs7.blk 0 rfl)))
      have HS7 := Lib.hid (hs7.front 4 rfl)
      clear hs7
      generalize (askQ RC Q (on : Int) a.x.c true).2 = ab
      cases ab
      all_goals
        go_wp2_with (first | (refine wpList_ld rfl _ _ rfl _ _ rfl _ HLN.out ?_) | (refine wpList_store_whole rfl _ _ _ rfl tRq b3 rfl [hv2, wv2] rfl nQ HS7.out (by kernel_rfl) rfl HO2.out ?_; intro w9 hs9; have HS20 := Lib.hid hs9; clear hs9 HS7 HLN))
        refine bodyPost_ret (results_c2 rfl _ _ rfl (loadQ2 (blk_range (HS20.out.blk 0 rfl)))) rfl ?_
        refine ⟨_, D6, rfl, HLE5.out.trans HLE6.out, by rw [HDQ.out]; exact HQ6.out, ?_⟩
        rw [HDQ.out]
        exact que_mono_C (HS20.out.drop.drop.swap.drop.swap.drop) HLE6.out
  · have HDQ := Lib.hid (show doneA Q a = (askQ RC Q (on : Int) a.x.c false).1 by rw [HDA.out]; unfold doneQ; rw [if_neg (by omega), if_pos (by omega)])
    clear hmn
    rw [show (kn : Int) = 4 by omega] at hkn
    clear hk hk7 HDA
    go_enter Tryz.func27, Tryz.ntmps27
    go_upto_region 1 with fail
    rw [← HW1.out]
    clear HW1
    generalize w.heap.size + 1 + 1 = b3 at *
    generalize w.heap.size + 1 = b2 at *
    generalize w.heap.size = b1 at *
    obtain ⟨y0, y1, y18⟩ := boxAct (HS1.out.blk 1 rfl)
    go_upto_region 11 with fail
    clear y0 y1 y18 hkn hon
    have HLC := Lib.hid (loadCl (g := b2) (o := 2) (rangeAct (blk_range (HS1.out.blk 1 rfl))))
    have HP := Lib.hid (Try_C (on : Int) a.x HE.out HA.out HSM.out HQS.out hh2 hw1 (HS1.out.front 3 rfl))
    clear HS1
    go_upto_region 12 with (first | (refine wpList_ld rfl _ _ rfl _ _ rfl _ HLC.out ?_) | (go_at_call 38; refine HP.out.mono ?_; rintro e5 w5 ⟨D5, rfl, hle5, hs5⟩; have HLE5 := Lib.hid hle5; have HS5 := Lib.hid hs5; clear hle5 hs5 HP HLC))
    have HLQ := Lib.hid (loadQ2 (blk_range (HS5.out.blk 1 rfl)))
    have HLC := Lib.hid (loadCl (g := b2) (o := 2) (rangeAct (blk_range (HS5.out.blk 2 rfl))))
    have HR := Lib.hid (rqAsk_ok (on : Int) a.x true HOK.out (HQ.out.mono HLE5.out) (HA.out.mono HLE5.out) HF.out HSM.out HQS.out hh1 hw1 HS5.out)
    rw [show (!true) = false from rfl] at HR
    go_upto_region 13 with (first | (refine wpList_ld rfl _ _ rfl _ _ rfl _ HLQ.out ?_) | (refine wpList_ld rfl _ _ rfl _ _ rfl _ HLC.out ?_) | (go_at_call 60; refine HR.out.mono ?_; rintro e6 w6 ⟨v6, D6, rfl, hle6, hq6, hs6⟩; have HQ6 := Lib.hid hq6; obtain ⟨hv2, wv2, hs2, ws2, rfl, hH2, hW2, _, _⟩ := hq6; have HO2 := Lib.hid (show ∀ u ∈ [hv2, wv2], u.oneCell' = true from fun u hu => by simp at hu; rcases hu with rfl | rfl; exact hH2.1.oneV; exact hW2.1.oneV); have HLE6 := Lib.hid hle6; have HS6 := Lib.hid (hs6.alloc #[hv2, wv2] tRq); clear hle6 hs6 hH2 hW2 HR HLQ HLC HS5) | (refine wpList_store_new rfl _ _ _ rfl [hv2, wv2] _ _ rfl rfl (by kernel_rfl) rfl HO2.out ?_))
    obtain ⟨W7, hW7, hs7⟩ := Sat.hide HS6.out
    rw [← hW7]
    clear hW7 HS6
    generalize w6.heap.size = bn at hs7 ⊢
    have HLN := Lib.hid (loadQ2 (blk_range (hs7.blk 0 rfl)))
    have HS7 := Lib.hid (hs7.front 4 rfl)
    clear hs7
    generalize (askQ RC Q (on : Int) a.x.c false).2 = ab
    cases ab
    all_goals
      go_wp2_with (first | (refine wpList_ld rfl _ _ rfl _ _ rfl _ HLN.out ?_) | (refine wpList_store_whole rfl _ _ _ rfl tRq b3 rfl [hv2, wv2] rfl nQ HS7.out (by kernel_rfl) rfl HO2.out ?_; intro w9 hs9; have HS20 := Lib.hid hs9; clear hs9 HS7 HLN))
      refine bodyPost_ret (results_c2 rfl _ _ rfl (loadQ2 (blk_range (HS20.out.blk 0 rfl)))) rfl ?_
      refine ⟨_, D6, rfl, HLE5.out.trans HLE6.out, by rw [HDQ.out]; exact HQ6.out, ?_⟩
      rw [HDQ.out]
      exact que_mono_C (HS20.out.drop.drop.swap.drop.swap.drop) HLE6.out
  · have HDQ := Lib.hid (show doneA Q a = (leaveQ RC Q (on : Int)).1 by rw [HDA.out]; unfold doneQ; rw [if_neg (by omega), if_neg (by omega), if_pos (by omega)])
    clear hmn
    rw [show (kn : Int) = 5 by omega] at hkn
    clear hk hk7 HDA
    go_enter Tryz.func27, Tryz.ntmps27
    go_upto_region 1 with fail
    rw [← HW1.out]
    clear HW1
    generalize w.heap.size + 1 + 1 = b3 at *
    generalize w.heap.size + 1 = b2 at *
    generalize w.heap.size = b1 at *
    obtain ⟨y0, y1, y18⟩ := boxAct (HS1.out.blk 1 rfl)
    go_upto_region 15 with fail
    clear y0 y1 y18 hkn hon
    have HP := Lib.hid (Leave_C (on : Int) HE.out hM (HS1.out.front 3 rfl))
    clear HS1
    go_upto_region 16 with (go_at_call 36; refine HP.out.mono ?_; rintro e5 w5 ⟨v5, rfl, hs5⟩; obtain ⟨a5, c5, rfl⟩ := (hs5.front 1 rfl).own_shape; have HS5 := Lib.hid hs5; clear hs5 HP)
    have HLQ := Lib.hid (loadQ2 (blk_range (HS5.out.blk 2 rfl)))
    have HR := Lib.hid (rqLeave_ok (on : Int) HQ.out hM HS5.out)
    go_upto_region 17 with (first | (refine wpList_ld rfl _ _ rfl _ _ rfl _ HLQ.out ?_) | (go_at_call 61; refine HR.out.mono ?_; rintro e6 w6 ⟨v6, iv6, D6, rfl, hle6, hq6, hs6⟩; obtain ⟨a6, c6, rfl⟩ := hs6.own_shape; have HQ6 := Lib.hid hq6; obtain ⟨hv2, wv2, hs2, ws2, rfl, hH2, hW2, _, _⟩ := hq6; have HO2 := Lib.hid (show ∀ u ∈ [hv2, wv2], u.oneCell' = true from fun u hu => by simp at hu; rcases hu with rfl | rfl; exact hH2.1.oneV; exact hW2.1.oneV); have HLE6 := Lib.hid hle6; have HS6 := Lib.hid (hs6.alloc #[hv2, wv2] tRq); clear hle6 hs6 hH2 hW2 HR HLQ HS5) | (refine wpList_store_new rfl _ _ _ rfl [hv2, wv2] _ _ rfl rfl (by kernel_rfl) rfl HO2.out ?_))
    obtain ⟨W7, hW7, hs7⟩ := Sat.hide HS6.out
    rw [← hW7]
    clear hW7 HS6
    generalize w6.heap.size = bn at hs7 ⊢
    have HLN := Lib.hid (loadQ2 (w := W7.drew) (blk_range (hs7.drew.blk 0 rfl)))
    have HIN := Lib.hid (Ints_k (r := true) (hs7.drew.own 3 rfl).rd (hs7.drew.own 1 rfl).rd (by simp))
    have HS7 := Lib.hid (hs7.drew)
    clear hs7
    refine wp_region_canon [(0, false, 4), (1, false, 3), (2, false, 3), (3, true, 0), (4, true, 0), (5, false, 999)] (by kernel_rfl) (by kernel_rfl) ?_
    iterate 3 (refine wpCan_read rfl rfl (fun K hK => ?_); (first | ((refine still_ld _ _ rfl _ _ rfl _ HLN.out ?_); go_simp) | go_simp); refine hK _ ?_; clear hK K)
    refine wpCan_eff rfl ?_
    refine wpList_do rfl (fun K hK => ?_)
    go_simp
    refine HIN.out.mono ?_
    rintro e8 w8 ⟨rfl, hk8⟩
    have HS8 := Lib.hid ((HS7.out.kept hk8).front 6 rfl)
    clear hk8 HS7 HIN HLN
    obtain ⟨z0, z1, zf⟩ := cells2 (HS8.out.blk 1 rfl)
    refine hK _ _ ?_
    clear hK K
    refine wpList_nil ?_
    refine And.intro ?_ ?_
    · go_simp
    refine wpCan_eff rfl ?_
    refine wpList_store_whole rfl _ _ _ rfl tRq b3 rfl [hv2, wv2] rfl nQ HS8.out (by kernel_rfl) rfl HO2.out ?_
    intro w9 hs9
    have HS20 := Lib.hid hs9
    clear hs9 HS8 z0 z1 zf
    refine wpList_nil ?_
    refine And.intro ?_ ?_
    · go_simp
    iterate 1 (refine wpCan_read rfl rfl (fun K hK => ?_); (first | ((refine still_ld _ _ rfl _ _ rfl _ HLN.out ?_); go_simp) | go_simp); refine hK _ ?_; clear hK K)
    refine wpCan_nil ?_
    go_wp2_with fail
    refine bodyPost_ret (results_c2 rfl _ _ rfl (loadQ2 (blk_range (HS20.out.blk 0 rfl)))) rfl ?_
    refine ⟨_, D6, rfl, PH.le.refl _ |>.trans HLE6.out, by rw [HDQ.out]; exact HQ6.out, ?_⟩
    rw [HDQ.out]
    exact que_mono_C (HS20.out.drop.drop.drop.swap.drop.swap.drop.swap.drop) HLE6.out
  · have HDQ := Lib.hid (show doneA Q a = (dropQ RC Q (ofE (on : Int))).1 by rw [HDA.out]; unfold doneQ; rw [if_neg (by omega), if_neg (by omega), if_neg (by omega), if_pos (by omega)])
    have e0 : ((kn : Int) == 0) = false := by simp only [beq_eq_false_iff_ne, ne_eq]; omega
    have e1 : ((kn : Int) == 1) = false := by simp only [beq_eq_false_iff_ne, ne_eq]; omega
    have e2 : ((kn : Int) == 2) = false := by simp only [beq_eq_false_iff_ne, ne_eq]; omega
    have e3 : ((kn : Int) == 3) = false := by simp only [beq_eq_false_iff_ne, ne_eq]; omega
    have e4 : ((kn : Int) == 4) = false := by simp only [beq_eq_false_iff_ne, ne_eq]; omega
    have e5 : ((kn : Int) == 5) = false := by simp only [beq_eq_false_iff_ne, ne_eq]; omega
    rw [show (mn : Int) = 7 by omega] at hmn
    clear hk hk7 HDA
    go_enter Tryz.func27, Tryz.ntmps27
    go_upto_region 1 with fail
    rw [← HW1.out]
    clear HW1
    generalize w.heap.size + 1 + 1 = b3 at *
    generalize w.heap.size + 1 = b2 at *
    generalize w.heap.size = b1 at *
    obtain ⟨y0, y1, y18⟩ := boxAct (HS1.out.blk 1 rfl)
    go_upto_region 19 with fail
    clear y0 y1 y18 hkn hon hmn e0 e1 e2 e3 e4 e5
    have HP := Lib.hid (Clear_C (on : Int) HE.out hM (HS1.out.front 3 rfl))
    clear HS1
    go_upto_region 20 with (go_at_call 37; refine HP.out.mono ?_; rintro e5 w5 ⟨v5, rfl, hs5⟩; obtain ⟨a5, c5, rfl⟩ := (hs5.front 1 rfl).own_shape; have HS5 := Lib.hid hs5; clear hs5 HP)
    have HLQ := Lib.hid (loadQ2 (blk_range (HS5.out.blk 2 rfl)))
    have HR := Lib.hid (rqClear_ok (on : Int) HQ.out hM HS5.out)
    go_upto_region 21 with (first | (refine wpList_ld rfl _ _ rfl _ _ rfl _ HLQ.out ?_) | (go_at_call 62; refine HR.out.mono ?_; rintro e6 w6 ⟨v6, iv6, D6, rfl, hle6, hq6, hs6⟩; obtain ⟨a6, c6, rfl⟩ := hs6.own_shape; have HQ6 := Lib.hid hq6; obtain ⟨hv2, wv2, hs2, ws2, rfl, hH2, hW2, _, _⟩ := hq6; have HO2 := Lib.hid (show ∀ u ∈ [hv2, wv2], u.oneCell' = true from fun u hu => by simp at hu; rcases hu with rfl | rfl; exact hH2.1.oneV; exact hW2.1.oneV); have HLE6 := Lib.hid hle6; have HS6 := Lib.hid (hs6.alloc #[hv2, wv2] tRq); clear hle6 hs6 hH2 hW2 HR HLQ HS5) | (refine wpList_store_new rfl _ _ _ rfl [hv2, wv2] _ _ rfl rfl (by kernel_rfl) rfl HO2.out ?_))
    obtain ⟨W7, hW7, hs7⟩ := Sat.hide HS6.out
    rw [← hW7]
    clear hW7 HS6
    generalize w6.heap.size = bn at hs7 ⊢
    have HLN := Lib.hid (loadQ2 (w := W7.drew) (blk_range (hs7.drew.blk 0 rfl)))
    have HIN := Lib.hid (Ints_k (r := true) (hs7.drew.own 3 rfl).rd (hs7.drew.own 1 rfl).rd (by simp))
    have HS7 := Lib.hid (hs7.drew)
    clear hs7
    refine wp_region_canon [(0, false, 4), (1, false, 3), (2, false, 3), (3, true, 0), (4, true, 0), (5, false, 999)] (by kernel_rfl) (by kernel_rfl) ?_
    iterate 3 (refine wpCan_read rfl rfl (fun K hK => ?_); (first | ((refine still_ld _ _ rfl _ _ rfl _ HLN.out ?_); go_simp) | go_simp); refine hK _ ?_; clear hK K)
    refine wpCan_eff rfl ?_
    refine wpList_do rfl (fun K hK => ?_)
    go_simp
    refine HIN.out.mono ?_
    rintro e8 w8 ⟨rfl, hk8⟩
    have HS8 := Lib.hid ((HS7.out.kept hk8).front 6 rfl)
    clear hk8 HS7 HIN HLN
    obtain ⟨z0, z1, zf⟩ := cells2 (HS8.out.blk 1 rfl)
    refine hK _ _ ?_
    clear hK K
    refine wpList_nil ?_
    refine And.intro ?_ ?_
    · go_simp
    refine wpCan_eff rfl ?_
    refine wpList_store_whole rfl _ _ _ rfl tRq b3 rfl [hv2, wv2] rfl nQ HS8.out (by kernel_rfl) rfl HO2.out ?_
    intro w9 hs9
    have HS20 := Lib.hid hs9
    clear hs9 HS8 z0 z1 zf
    refine wpList_nil ?_
    refine And.intro ?_ ?_
    · go_simp
    iterate 1 (refine wpCan_read rfl rfl (fun K hK => ?_); (first | ((refine still_ld _ _ rfl _ _ rfl _ HLN.out ?_); go_simp) | go_simp); refine hK _ ?_; clear hK K)
    refine wpCan_nil ?_
    go_wp2_with fail
    refine bodyPost_ret (results_c2 rfl _ _ rfl (loadQ2 (blk_range (HS20.out.blk 0 rfl)))) rfl ?_
    refine ⟨_, D6, rfl, PH.le.refl _ |>.trans HLE6.out, by rw [HDQ.out]; exact HQ6.out, ?_⟩
    rw [HDQ.out]
    exact que_mono_C (HS20.out.drop.drop.drop.swap.drop.swap.drop.swap.drop) HLE6.out
  · have HDQ := Lib.hid (show doneA Q a = (dropQ RC Q (goneP (on : Int) ((holdsQ Q (on : Int)).filter (someC (bits .and .i64 a.which 3))))).1 by rw [HDA.out]; unfold doneQ; rw [if_neg (by omega), if_neg (by omega), if_neg (by omega), if_neg (by omega)])
    have e0 : ((kn : Int) == 0) = false := by simp only [beq_eq_false_iff_ne, ne_eq]; omega
    have e1 : ((kn : Int) == 1) = false := by simp only [beq_eq_false_iff_ne, ne_eq]; omega
    have e2 : ((kn : Int) == 2) = false := by simp only [beq_eq_false_iff_ne, ne_eq]; omega
    have e3 : ((kn : Int) == 3) = false := by simp only [beq_eq_false_iff_ne, ne_eq]; omega
    have e4 : ((kn : Int) == 4) = false := by simp only [beq_eq_false_iff_ne, ne_eq]; omega
    have e5 : ((kn : Int) == 5) = false := by simp only [beq_eq_false_iff_ne, ne_eq]; omega
    have e7 : ((mn : Int) == 7) = false := by simp only [beq_eq_false_iff_ne, ne_eq]; omega
    clear hk hk7 HDA hm
    go_enter Tryz.func27, Tryz.ntmps27
    go_upto_region 1 with fail
    rw [← HW1.out]
    clear HW1
    generalize w.heap.size + 1 + 1 = b3 at *
    generalize w.heap.size + 1 = b2 at *
    generalize w.heap.size = b1 at *
    obtain ⟨y0, y1, y18⟩ := boxAct (HS1.out.blk 1 rfl)
    go_upto_region 22 with fail
    clear y0 y1 y18 hkn hon hmn e0 e1 e2 e3 e4 e5 e7
    have hlH : (holdsQ Q (on : Int)).length ≤ 1000 := by unfold holdsQ; rw [List.length_map]; exact Nat.le_trans (List.length_filter_le _ _) hh1
    have HLQ := Lib.hid (loadQ2 (w := W1.drew) (blk_range (HS1.out.drew.blk 0 rfl)))
    obtain ⟨y0, y1, y18⟩ := boxAct (HS1.out.blk 1 rfl)
    have HHO := Lib.hid (rqHolds_ok (on : Int) HQ.out hh1 HS1.out.drew)
    refine wp_region_canon [(0, false, 8), (1, false, 8), (2, false, 4), (3, false, 4), (5, false, 7), (6, false, 7), (4, true, 0), (7, true, 0), (8, true, 0), (9, false, 999)] (by kernel_rfl) (by kernel_rfl) ?_
    iterate 6 (refine wpCan_read rfl rfl (fun K hK => ?_); (first | ((refine still_ld _ _ rfl _ _ rfl _ HLQ.out ?_); go_simp) | go_simp); refine hK _ ?_; clear hK K)
    refine wpCan_eff rfl ?_
    refine wpList_do rfl (fun K hK => ?_)
    go_simp
    refine HHO.out.mono ?_
    rintro e2 w2 ⟨v2, cs2, D2, rfl, hle2, hcd2, hcm2, hs2⟩
    have hl2 : cs2.length ≤ 1000 := by rw [← List.length_map (f := ClmE.c), hcm2]; exact hlH
    have HSO := Lib.hid (rSome_ok a.which hcd2 hl2 hs2)
    rw [hcm2] at HSO
    clear y0 y1 y18 HHO HLQ
    obtain ⟨y0, y1, y18⟩ := boxAct (hs2.blk 1 rfl)
    clear HS1 hs2 hcd2 hcm2
    refine hK _ _ ?_
    clear hK K
    refine wpList_nil ?_
    refine And.intro ?_ ?_
    · go_simp
    refine wpCan_eff rfl ?_
    refine wpList_do rfl (fun K hK => ?_)
    go_simp
    refine HSO.out.mono ?_
    rintro e3 w3 ⟨v3, cs3, D3, rfl, hle3, hcd3, hcm3, hs3⟩
    have HLE3 := Lib.hid (hle2.trans hle3)
    have HDR := Lib.hid (Drop_C (on : Int) v3 cs3 hcd3.1 hcd3.2 (HE.out.mono HLE3.out) hM (que_mono_C (hs3.front 3 rfl) HLE3.out))
    rw [hcm3] at HDR
    clear hcd3 hcm3 hs3 hle2 hle3 HSO y0 y1 y18
    refine hK _ _ ?_
    clear hK K
    refine wpList_nil ?_
    refine And.intro ?_ ?_
    · go_simp
    refine wpCan_eff rfl ?_
    refine wpList_do rfl (fun K hK => ?_)
    go_simp
    refine HDR.out.mono ?_
    rintro e4 w4 ⟨v4, rfl, hs4⟩
    obtain ⟨a4, c4, rfl⟩ := (hs4.front 1 rfl).own_shape
    have HS4 := Lib.hid hs4
    clear hs4 HDR
    refine hK _ _ ?_
    clear hK K
    refine wpList_nil ?_
    refine And.intro ?_ ?_
    · go_simp
    iterate 1 (refine wpCan_read rfl rfl (fun K hK => ?_); (first | ((refine still_ld _ _ rfl _ _ rfl _ HLQ.out ?_); go_simp) | go_simp); refine hK _ ?_; clear hK K)
    refine wpCan_nil ?_
    go_upto_region 23 with fail
    have HQ3 := Lib.hid (HQ.out.mono HLE3.out)
    generalize HGG : goneP (on : Int) ((holdsQ Q (on : Int)).filter (someC (bits .and .i64 a.which 3))) = G at *
    have HGO := Lib.hid HGG
    clear HGG
    obtain ⟨y0, y1, y18⟩ := boxAct (HS4.out.blk 3 rfl)
    obtain ⟨q0, q1, qf⟩ := cells2 (HS4.out.blk 2 rfl)
    have HLQ := Lib.hid (loadQ2 (w := w4.drew) (blk_range (HS4.out.drew.blk 2 rfl)))
    have HS5 := Lib.hid HS4.out.drew
    refine wp_region_tr (.rd 0 8 (.rd 1 8 (.rd 2 4 (.rd 3 4 (.rd 5 7 (.rd 6 7 (.ef 4 (.ef 7 (.ef 8 (.rd 9 13 (.rd 10 13 (.rd 11 999 (.ef 12 (.ef 13 (.rd 14 999 .nil) .nil) .nil)))) (.ef 12 (.ef 8 (.rd 9 13 (.rd 10 13 (.rd 11 999 (.ef 13 (.rd 14 999 .nil) .nil)))) .nil) .nil)) (.ef 12 (.ef 7 (.ef 8 (.rd 9 13 (.rd 10 13 (.rd 11 999 (.ef 13 (.rd 14 999 .nil) .nil)))) .nil) .nil) .nil)) (.ef 12 (.ef 4 (.ef 7 (.ef 8 (.rd 9 13 (.rd 10 13 (.rd 11 999 (.ef 13 (.rd 14 999 .nil) .nil)))) .nil) .nil) .nil) .nil)))))))) [4, 7, 8, 12, 13] (by kernel_rfl) (by kernel_rfl) ?_
    iterate 6 (refine wpTr_read rfl rfl (fun K hK => ?_); (first | ((refine still_ld _ _ rfl _ _ rfl _ HLQ.out ?_); go_simp) | go_simp); refine hK _ ?_; clear hK K)
    refine wpTr_two rfl rfl ?_ ?_
    · skip
      refine wpList_do rfl (fun K hK => ?_)
      go_simp
      refine (rqHolds_ok (on : Int) (HQ3.out) hh1 HS5.out).mono ?_
      rintro e5 w5 ⟨v5, cs5, D5, rfl, hle5, hcd5, hcm5, hs5⟩
      have hl5 : cs5.length ≤ 1000 := by rw [← List.length_map (f := ClmE.c), hcm5]; exact hlH
      have HCD5 := Lib.hid hcd5
      have HCM5 := Lib.hid hcm5
      have HLE5 := Lib.hid (hle5)
      clear hcd5 hcm5 hle5
      clear HS5 y0 y1 y18 q0 q1 qf HLQ
      obtain ⟨y0, y1, y18⟩ := boxAct (hs5.blk 3 rfl)
      obtain ⟨q0, q1, qf⟩ := cells2 (hs5.blk 2 rfl)
      have HLQ := Lib.hid (loadQ2 (blk_range (hs5.blk 2 rfl)))
      have HX4 := Lib.hid hs5
      clear hs5
      refine hK _ _ ?_
      clear hK K
      refine wpList_nil ?_
      refine And.intro ?_ ?_
      · go_simp
      refine wpTr_two rfl rfl ?_ ?_
      · skip
        refine wpList_do rfl (fun K hK => ?_)
        go_simp
        refine (rSome_ok a.which HCD5.out hl5 HX4.out).mono ?_
        rintro e6 w6 ⟨v6, cs6, D6, rfl, hle6, hcd6, hcm6, hs6⟩
        rw [HCM5.out] at hcm6
        have HCD6 := Lib.hid hcd6
        have HCM6 := Lib.hid hcm6
        have HLX6 := Lib.hid ((HLE5.out).trans hle6)
        clear hcd6 hcm6 hle6
        clear HX4 y0 y1 y18 q0 q1 qf HLQ
        obtain ⟨y0, y1, y18⟩ := boxAct (hs6.blk 3 rfl)
        obtain ⟨q0, q1, qf⟩ := cells2 (hs6.blk 2 rfl)
        have HLQ := Lib.hid (loadQ2 (blk_range (hs6.blk 2 rfl)))
        have HX7 := Lib.hid hs6
        clear hs6
        refine hK _ _ ?_
        clear hK K
        refine wpList_nil ?_
        refine And.intro ?_ ?_
        · go_simp
        refine wpTr_two rfl rfl ?_ ?_
        · skip
          refine wpList_do rfl (fun K hK => ?_)
          go_simp
          have hdr := rqDrop_ok (on : Int) (HQ3.out.mono HLX6.out) HCD6.out hM HX7.out
          rw [HCM6.out, HGO.out] at hdr
          refine hdr.mono ?_
          rintro e7 w7 ⟨v7, iv7, D7, rfl, hle7, hq6, hs7⟩
          obtain ⟨a7, c7, rfl⟩ := hs7.own_shape
          have HQ6 := Lib.hid hq6
          (obtain ⟨hv2, wv2, hs2, ws2, rfl, hH2, hW2, _, _⟩ := hq6; have HO2 := Lib.hid (show ∀ u ∈ [hv2, wv2], u.oneCell' = true from fun u hu => by simp at hu; rcases hu with rfl | rfl; exact hH2.1.oneV; exact hW2.1.oneV))
          have HLE7 := Lib.hid ((HLX6.out).trans hle7)
          clear hdr hle7 hH2 hW2
          clear HX7 y0 y1 y18 q0 q1 qf HLQ
          obtain ⟨y0, y1, y18⟩ := boxAct (hs7.blk 4 rfl)
          obtain ⟨q0, q1, qf⟩ := cells2 (hs7.blk 3 rfl)
          have HLQ := Lib.hid (loadQ2 (blk_range (hs7.blk 3 rfl)))
          have HX8 := Lib.hid hs7
          clear hs7
          refine hK _ _ ?_
          clear hK K
          refine wpList_nil ?_
          refine And.intro ?_ ?_
          · go_simp
          iterate 3 (refine wpTr_read rfl rfl (fun K hK => ?_); go_simp; refine hK _ ?_; clear hK K)
          refine wpTr_eff rfl ?_
          refine wpList_plain rfl (fun K hK => ?_)
          go_simp
          refine hK _ _ ?_
          clear hK K
          refine wpList_nil ?_
          obtain ⟨W9, hW9, hs9⟩ := Sat.hide (HX8.out.alloc nQ tRq)
          rw [← hW9]
          generalize (w7).heap.size = bn at hs9 ⊢
          clear hW9
          clear HX8 y0 y1 y18 q0 q1 qf HLQ
          obtain ⟨y0, y1, y18⟩ := boxAct (hs9.blk 5 rfl)
          obtain ⟨q0, q1, qf⟩ := cells2 (hs9.blk 4 rfl)
          have HLQ := Lib.hid (loadQ2 (blk_range (hs9.blk 4 rfl)))
          have HX12 := Lib.hid hs9
          clear hs9
          refine And.intro ?_ ?_
          · go_simp
          refine wpTr_eff rfl ?_
          refine wpList_store_whole rfl _ _ _ rfl tRq bn rfl [hv2, wv2] rfl nQ (HX12.out.front 0 rfl) (by kernel_rfl) rfl HO2.out ?_
          intro w12 hs12
          have HS12 := Lib.hid hs12
          clear hs12 HX12 y0 y1 y18 q0 q1 qf HLQ
          refine wpList_nil ?_
          refine And.intro ?_ ?_
          · go_simp
          iterate 1 (refine wpTr_read rfl rfl (fun K hK => ?_); go_simp; refine hK _ ?_; clear hK K)
          refine wpTr_nil ?_
          go_upto_region 24 with fail
          have HLE6 := Lib.hid HLE7.out
          obtain ⟨W7, hW7, hs7⟩ := Sat.hide HS12.out
          rw [← hW7]
          clear hW7 HS12
          clear HLE7
          have HLN := Lib.hid (loadQ2 (w := W7.drew) (blk_range (hs7.drew.blk 0 rfl)))
          have HIN := Lib.hid (Ints_k (r := true) (hs7.drew.own 3 rfl).rd (hs7.drew.own 1 rfl).rd (by simp))
          have HS7 := Lib.hid (hs7.drew)
          clear hs7
          refine wp_region_canon [(0, false, 4), (1, false, 3), (2, false, 3), (3, true, 0), (4, true, 0), (5, false, 999)] (by kernel_rfl) (by kernel_rfl) ?_
          iterate 3 (refine wpCan_read rfl rfl (fun K hK => ?_); (first | ((refine still_ld _ _ rfl _ _ rfl _ HLN.out ?_); go_simp) | go_simp); refine hK _ ?_; clear hK K)
          refine wpCan_eff rfl ?_
          refine wpList_do rfl (fun K hK => ?_)
          go_simp
          refine HIN.out.mono ?_
          rintro e8 w8 ⟨rfl, hk8⟩
          have HS8 := Lib.hid ((HS7.out.kept hk8).front 6 rfl)
          clear hk8 HS7 HIN HLN
          obtain ⟨z0, z1, zf⟩ := cells2 (HS8.out.blk 1 rfl)
          refine hK _ _ ?_
          clear hK K
          refine wpList_nil ?_
          refine And.intro ?_ ?_
          · go_simp
          refine wpCan_eff rfl ?_
          refine wpList_store_whole rfl _ _ _ rfl tRq b3 rfl [hv2, wv2] rfl nQ HS8.out (by kernel_rfl) rfl HO2.out ?_
          intro w9 hs9
          have HS20 := Lib.hid hs9
          clear hs9 HS8 z0 z1 zf
          refine wpList_nil ?_
          refine And.intro ?_ ?_
          · go_simp
          iterate 1 (refine wpCan_read rfl rfl (fun K hK => ?_); (first | ((refine still_ld _ _ rfl _ _ rfl _ HLN.out ?_); go_simp) | go_simp); refine hK _ ?_; clear hK K)
          refine wpCan_nil ?_
          go_wp2_with fail
          refine bodyPost_ret (results_c2 rfl _ _ rfl (loadQ2 (blk_range (HS20.out.blk 0 rfl)))) rfl ?_
          refine ⟨_, D7, rfl, HLE3.out.trans HLE6.out, by rw [HDQ.out]; exact HQ6.out, ?_⟩
          rw [HDQ.out]
          exact que_mono_C (HS20.out.drop.drop.drop.swap.drop.swap.drop.swap.drop) HLE6.out
        · skip
          refine wpList_plain rfl (fun K hK => ?_)
          go_simp
          refine hK _ _ ?_
          clear hK K
          refine wpList_nil ?_
          obtain ⟨W9, hW9, hs9⟩ := Sat.hide (HX7.out.alloc nQ tRq)
          rw [← hW9]
          generalize (w6).heap.size = bn at hs9 ⊢
          clear hW9
          clear HX7 y0 y1 y18 q0 q1 qf HLQ
          obtain ⟨y0, y1, y18⟩ := boxAct (hs9.blk 4 rfl)
          obtain ⟨q0, q1, qf⟩ := cells2 (hs9.blk 3 rfl)
          have HLQ := Lib.hid (loadQ2 (blk_range (hs9.blk 3 rfl)))
          have HX12 := Lib.hid hs9
          clear hs9
          refine And.intro ?_ ?_
          · go_simp
          refine wpTr_eff rfl ?_
          refine wpList_do rfl (fun K hK => ?_)
          go_simp
          have hdr := rqDrop_ok (on : Int) (HQ3.out.mono HLX6.out) HCD6.out hM HX12.out
          rw [HCM6.out, HGO.out] at hdr
          refine hdr.mono ?_
          rintro e7 w7 ⟨v7, iv7, D7, rfl, hle7, hq6, hs7⟩
          obtain ⟨a7, c7, rfl⟩ := hs7.own_shape
          have HQ6 := Lib.hid hq6
          (obtain ⟨hv2, wv2, hs2, ws2, rfl, hH2, hW2, _, _⟩ := hq6; have HO2 := Lib.hid (show ∀ u ∈ [hv2, wv2], u.oneCell' = true from fun u hu => by simp at hu; rcases hu with rfl | rfl; exact hH2.1.oneV; exact hW2.1.oneV))
          have HLE7 := Lib.hid ((HLX6.out).trans hle7)
          clear hdr hle7 hH2 hW2
          clear HX12 y0 y1 y18 q0 q1 qf HLQ
          obtain ⟨y0, y1, y18⟩ := boxAct (hs7.blk 5 rfl)
          obtain ⟨q0, q1, qf⟩ := cells2 (hs7.blk 4 rfl)
          have HLQ := Lib.hid (loadQ2 (blk_range (hs7.blk 4 rfl)))
          have HX8 := Lib.hid hs7
          clear hs7
          refine hK _ _ ?_
          clear hK K
          refine wpList_nil ?_
          refine And.intro ?_ ?_
          · go_simp
          iterate 3 (refine wpTr_read rfl rfl (fun K hK => ?_); go_simp; refine hK _ ?_; clear hK K)
          refine wpTr_eff rfl ?_
          refine wpList_store_whole rfl _ _ _ rfl tRq bn rfl [hv2, wv2] rfl nQ (HX8.out.front 1 rfl) (by kernel_rfl) rfl HO2.out ?_
          intro w12 hs12
          have HS12 := Lib.hid hs12
          clear hs12 HX8 y0 y1 y18 q0 q1 qf HLQ
          refine wpList_nil ?_
          refine And.intro ?_ ?_
          · go_simp
          iterate 1 (refine wpTr_read rfl rfl (fun K hK => ?_); go_simp; refine hK _ ?_; clear hK K)
          refine wpTr_nil ?_
          go_upto_region 24 with fail
          have HLE6 := Lib.hid HLE7.out
          obtain ⟨W7, hW7, hs7⟩ := Sat.hide HS12.out
          rw [← hW7]
          clear hW7 HS12
          clear HLE7
          have HLN := Lib.hid (loadQ2 (w := W7.drew) (blk_range (hs7.drew.blk 0 rfl)))
          have HIN := Lib.hid (Ints_k (r := true) (hs7.drew.own 3 rfl).rd (hs7.drew.own 1 rfl).rd (by simp))
          have HS7 := Lib.hid (hs7.drew)
          clear hs7
          refine wp_region_canon [(0, false, 4), (1, false, 3), (2, false, 3), (3, true, 0), (4, true, 0), (5, false, 999)] (by kernel_rfl) (by kernel_rfl) ?_
          iterate 3 (refine wpCan_read rfl rfl (fun K hK => ?_); (first | ((refine still_ld _ _ rfl _ _ rfl _ HLN.out ?_); go_simp) | go_simp); refine hK _ ?_; clear hK K)
          refine wpCan_eff rfl ?_
          refine wpList_do rfl (fun K hK => ?_)
          go_simp
          refine HIN.out.mono ?_
          rintro e8 w8 ⟨rfl, hk8⟩
          have HS8 := Lib.hid ((HS7.out.kept hk8).front 6 rfl)
          clear hk8 HS7 HIN HLN
          obtain ⟨z0, z1, zf⟩ := cells2 (HS8.out.blk 1 rfl)
          refine hK _ _ ?_
          clear hK K
          refine wpList_nil ?_
          refine And.intro ?_ ?_
          · go_simp
          refine wpCan_eff rfl ?_
          refine wpList_store_whole rfl _ _ _ rfl tRq b3 rfl [hv2, wv2] rfl nQ HS8.out (by kernel_rfl) rfl HO2.out ?_
          intro w9 hs9
          have HS20 := Lib.hid hs9
          clear hs9 HS8 z0 z1 zf
          refine wpList_nil ?_
          refine And.intro ?_ ?_
          · go_simp
          iterate 1 (refine wpCan_read rfl rfl (fun K hK => ?_); (first | ((refine still_ld _ _ rfl _ _ rfl _ HLN.out ?_); go_simp) | go_simp); refine hK _ ?_; clear hK K)
          refine wpCan_nil ?_
          go_wp2_with fail
          refine bodyPost_ret (results_c2 rfl _ _ rfl (loadQ2 (blk_range (HS20.out.blk 0 rfl)))) rfl ?_
          refine ⟨_, D7, rfl, HLE3.out.trans HLE6.out, by rw [HDQ.out]; exact HQ6.out, ?_⟩
          rw [HDQ.out]
          exact que_mono_C (HS20.out.drop.drop.drop.swap.drop.swap.drop.swap.drop) HLE6.out
          skip
      · skip
        refine wpList_plain rfl (fun K hK => ?_)
        go_simp
        refine hK _ _ ?_
        clear hK K
        refine wpList_nil ?_
        obtain ⟨W9, hW9, hs9⟩ := Sat.hide (HX4.out.alloc nQ tRq)
        rw [← hW9]
        generalize (w5).heap.size = bn at hs9 ⊢
        clear hW9
        clear HX4 y0 y1 y18 q0 q1 qf HLQ
        obtain ⟨y0, y1, y18⟩ := boxAct (hs9.blk 4 rfl)
        obtain ⟨q0, q1, qf⟩ := cells2 (hs9.blk 3 rfl)
        have HLQ := Lib.hid (loadQ2 (blk_range (hs9.blk 3 rfl)))
        have HX12 := Lib.hid hs9
        clear hs9
        refine And.intro ?_ ?_
        · go_simp
        refine wpTr_eff rfl ?_
        refine wpList_do rfl (fun K hK => ?_)
        go_simp
        refine (rSome_ok a.which HCD5.out hl5 HX12.out).mono ?_
        rintro e6 w6 ⟨v6, cs6, D6, rfl, hle6, hcd6, hcm6, hs6⟩
        rw [HCM5.out] at hcm6
        have HCD6 := Lib.hid hcd6
        have HCM6 := Lib.hid hcm6
        have HLX6 := Lib.hid ((HLE5.out).trans hle6)
        clear hcd6 hcm6 hle6
        clear HX12 y0 y1 y18 q0 q1 qf HLQ
        obtain ⟨y0, y1, y18⟩ := boxAct (hs6.blk 4 rfl)
        obtain ⟨q0, q1, qf⟩ := cells2 (hs6.blk 3 rfl)
        have HLQ := Lib.hid (loadQ2 (blk_range (hs6.blk 3 rfl)))
        have HX7 := Lib.hid hs6
        clear hs6
        refine hK _ _ ?_
        clear hK K
        refine wpList_nil ?_
        refine And.intro ?_ ?_
        · go_simp
        refine wpTr_eff rfl ?_
        refine wpList_do rfl (fun K hK => ?_)
        go_simp
        have hdr := rqDrop_ok (on : Int) (HQ3.out.mono HLX6.out) HCD6.out hM HX7.out
        rw [HCM6.out, HGO.out] at hdr
        refine hdr.mono ?_
        rintro e7 w7 ⟨v7, iv7, D7, rfl, hle7, hq6, hs7⟩
        obtain ⟨a7, c7, rfl⟩ := hs7.own_shape
        have HQ6 := Lib.hid hq6
        (obtain ⟨hv2, wv2, hs2, ws2, rfl, hH2, hW2, _, _⟩ := hq6; have HO2 := Lib.hid (show ∀ u ∈ [hv2, wv2], u.oneCell' = true from fun u hu => by simp at hu; rcases hu with rfl | rfl; exact hH2.1.oneV; exact hW2.1.oneV))
        have HLE7 := Lib.hid ((HLX6.out).trans hle7)
        clear hdr hle7 hH2 hW2
        clear HX7 y0 y1 y18 q0 q1 qf HLQ
        obtain ⟨y0, y1, y18⟩ := boxAct (hs7.blk 5 rfl)
        obtain ⟨q0, q1, qf⟩ := cells2 (hs7.blk 4 rfl)
        have HLQ := Lib.hid (loadQ2 (blk_range (hs7.blk 4 rfl)))
        have HX8 := Lib.hid hs7
        clear hs7
        refine hK _ _ ?_
        clear hK K
        refine wpList_nil ?_
        refine And.intro ?_ ?_
        · go_simp
        iterate 3 (refine wpTr_read rfl rfl (fun K hK => ?_); go_simp; refine hK _ ?_; clear hK K)
        refine wpTr_eff rfl ?_
        refine wpList_store_whole rfl _ _ _ rfl tRq bn rfl [hv2, wv2] rfl nQ (HX8.out.front 1 rfl) (by kernel_rfl) rfl HO2.out ?_
        intro w12 hs12
        have HS12 := Lib.hid hs12
        clear hs12 HX8 y0 y1 y18 q0 q1 qf HLQ
        refine wpList_nil ?_
        refine And.intro ?_ ?_
        · go_simp
        iterate 1 (refine wpTr_read rfl rfl (fun K hK => ?_); go_simp; refine hK _ ?_; clear hK K)
        refine wpTr_nil ?_
        go_upto_region 24 with fail
        have HLE6 := Lib.hid HLE7.out
        obtain ⟨W7, hW7, hs7⟩ := Sat.hide HS12.out
        rw [← hW7]
        clear hW7 HS12
        clear HLE7
        have HLN := Lib.hid (loadQ2 (w := W7.drew) (blk_range (hs7.drew.blk 0 rfl)))
        have HIN := Lib.hid (Ints_k (r := true) (hs7.drew.own 3 rfl).rd (hs7.drew.own 1 rfl).rd (by simp))
        have HS7 := Lib.hid (hs7.drew)
        clear hs7
        refine wp_region_canon [(0, false, 4), (1, false, 3), (2, false, 3), (3, true, 0), (4, true, 0), (5, false, 999)] (by kernel_rfl) (by kernel_rfl) ?_
        iterate 3 (refine wpCan_read rfl rfl (fun K hK => ?_); (first | ((refine still_ld _ _ rfl _ _ rfl _ HLN.out ?_); go_simp) | go_simp); refine hK _ ?_; clear hK K)
        refine wpCan_eff rfl ?_
        refine wpList_do rfl (fun K hK => ?_)
        go_simp
        refine HIN.out.mono ?_
        rintro e8 w8 ⟨rfl, hk8⟩
        have HS8 := Lib.hid ((HS7.out.kept hk8).front 6 rfl)
        clear hk8 HS7 HIN HLN
        obtain ⟨z0, z1, zf⟩ := cells2 (HS8.out.blk 1 rfl)
        refine hK _ _ ?_
        clear hK K
        refine wpList_nil ?_
        refine And.intro ?_ ?_
        · go_simp
        refine wpCan_eff rfl ?_
        refine wpList_store_whole rfl _ _ _ rfl tRq b3 rfl [hv2, wv2] rfl nQ HS8.out (by kernel_rfl) rfl HO2.out ?_
        intro w9 hs9
        have HS20 := Lib.hid hs9
        clear hs9 HS8 z0 z1 zf
        refine wpList_nil ?_
        refine And.intro ?_ ?_
        · go_simp
        iterate 1 (refine wpCan_read rfl rfl (fun K hK => ?_); (first | ((refine still_ld _ _ rfl _ _ rfl _ HLN.out ?_); go_simp) | go_simp); refine hK _ ?_; clear hK K)
        refine wpCan_nil ?_
        go_wp2_with fail
        refine bodyPost_ret (results_c2 rfl _ _ rfl (loadQ2 (blk_range (HS20.out.blk 0 rfl)))) rfl ?_
        refine ⟨_, D7, rfl, HLE3.out.trans HLE6.out, by rw [HDQ.out]; exact HQ6.out, ?_⟩
        rw [HDQ.out]
        exact que_mono_C (HS20.out.drop.drop.drop.swap.drop.swap.drop.swap.drop) HLE6.out
        skip
    · skip
      refine wpList_plain rfl (fun K hK => ?_)
      go_simp
      refine hK _ _ ?_
      clear hK K
      refine wpList_nil ?_
      obtain ⟨W9, hW9, hs9⟩ := Sat.hide ((HS4.out.alloc nQ tRq).drew)
      rw [← hW9]
      generalize w4.heap.size = bn at hs9 ⊢
      clear hW9 HS4
      clear HS5 y0 y1 y18 q0 q1 qf HLQ
      obtain ⟨y0, y1, y18⟩ := boxAct (hs9.blk 4 rfl)
      obtain ⟨q0, q1, qf⟩ := cells2 (hs9.blk 3 rfl)
      have HLQ := Lib.hid (loadQ2 (blk_range (hs9.blk 3 rfl)))
      have HX12 := Lib.hid hs9
      clear hs9
      refine And.intro ?_ ?_
      · go_simp
      refine wpTr_eff rfl ?_
      refine wpList_do rfl (fun K hK => ?_)
      go_simp
      refine (rqHolds_ok (on : Int) (HQ3.out) hh1 HX12.out).mono ?_
      rintro e5 w5 ⟨v5, cs5, D5, rfl, hle5, hcd5, hcm5, hs5⟩
      have hl5 : cs5.length ≤ 1000 := by rw [← List.length_map (f := ClmE.c), hcm5]; exact hlH
      have HCD5 := Lib.hid hcd5
      have HCM5 := Lib.hid hcm5
      have HLE5 := Lib.hid (hle5)
      clear hcd5 hcm5 hle5
      clear HX12 y0 y1 y18 q0 q1 qf HLQ
      obtain ⟨y0, y1, y18⟩ := boxAct (hs5.blk 4 rfl)
      obtain ⟨q0, q1, qf⟩ := cells2 (hs5.blk 3 rfl)
      have HLQ := Lib.hid (loadQ2 (blk_range (hs5.blk 3 rfl)))
      have HX4 := Lib.hid hs5
      clear hs5
      refine hK _ _ ?_
      clear hK K
      refine wpList_nil ?_
      refine And.intro ?_ ?_
      · go_simp
      refine wpTr_eff rfl ?_
      refine wpList_do rfl (fun K hK => ?_)
      go_simp
      refine (rSome_ok a.which HCD5.out hl5 HX4.out).mono ?_
      rintro e6 w6 ⟨v6, cs6, D6, rfl, hle6, hcd6, hcm6, hs6⟩
      rw [HCM5.out] at hcm6
      have HCD6 := Lib.hid hcd6
      have HCM6 := Lib.hid hcm6
      have HLX6 := Lib.hid ((HLE5.out).trans hle6)
      clear hcd6 hcm6 hle6
      clear HX4 y0 y1 y18 q0 q1 qf HLQ
      obtain ⟨y0, y1, y18⟩ := boxAct (hs6.blk 4 rfl)
      obtain ⟨q0, q1, qf⟩ := cells2 (hs6.blk 3 rfl)
      have HLQ := Lib.hid (loadQ2 (blk_range (hs6.blk 3 rfl)))
      have HX7 := Lib.hid hs6
      clear hs6
      refine hK _ _ ?_
      clear hK K
      refine wpList_nil ?_
      refine And.intro ?_ ?_
      · go_simp
      refine wpTr_eff rfl ?_
      refine wpList_do rfl (fun K hK => ?_)
      go_simp
      have hdr := rqDrop_ok (on : Int) (HQ3.out.mono HLX6.out) HCD6.out hM HX7.out
      rw [HCM6.out, HGO.out] at hdr
      refine hdr.mono ?_
      rintro e7 w7 ⟨v7, iv7, D7, rfl, hle7, hq6, hs7⟩
      obtain ⟨a7, c7, rfl⟩ := hs7.own_shape
      have HQ6 := Lib.hid hq6
      (obtain ⟨hv2, wv2, hs2, ws2, rfl, hH2, hW2, _, _⟩ := hq6; have HO2 := Lib.hid (show ∀ u ∈ [hv2, wv2], u.oneCell' = true from fun u hu => by simp at hu; rcases hu with rfl | rfl; exact hH2.1.oneV; exact hW2.1.oneV))
      have HLE7 := Lib.hid ((HLX6.out).trans hle7)
      clear hdr hle7 hH2 hW2
      clear HX7 y0 y1 y18 q0 q1 qf HLQ
      obtain ⟨y0, y1, y18⟩ := boxAct (hs7.blk 5 rfl)
      obtain ⟨q0, q1, qf⟩ := cells2 (hs7.blk 4 rfl)
      have HLQ := Lib.hid (loadQ2 (blk_range (hs7.blk 4 rfl)))
      have HX8 := Lib.hid hs7
      clear hs7
      refine hK _ _ ?_
      clear hK K
      refine wpList_nil ?_
      refine And.intro ?_ ?_
      · go_simp
      iterate 3 (refine wpTr_read rfl rfl (fun K hK => ?_); go_simp; refine hK _ ?_; clear hK K)
      refine wpTr_eff rfl ?_
      refine wpList_store_whole rfl _ _ _ rfl tRq bn rfl [hv2, wv2] rfl nQ (HX8.out.front 1 rfl) (by kernel_rfl) rfl HO2.out ?_
      intro w12 hs12
      have HS12 := Lib.hid hs12
      clear hs12 HX8 y0 y1 y18 q0 q1 qf HLQ
      refine wpList_nil ?_
      refine And.intro ?_ ?_
      · go_simp
      iterate 1 (refine wpTr_read rfl rfl (fun K hK => ?_); go_simp; refine hK _ ?_; clear hK K)
      refine wpTr_nil ?_
      go_upto_region 24 with fail
      have HLE6 := Lib.hid HLE7.out
      obtain ⟨W7, hW7, hs7⟩ := Sat.hide HS12.out
      rw [← hW7]
      clear hW7 HS12
      clear HLE7
      have HLN := Lib.hid (loadQ2 (w := W7.drew) (blk_range (hs7.drew.blk 0 rfl)))
      have HIN := Lib.hid (Ints_k (r := true) (hs7.drew.own 3 rfl).rd (hs7.drew.own 1 rfl).rd (by simp))
      have HS7 := Lib.hid (hs7.drew)
      clear hs7
      refine wp_region_canon [(0, false, 4), (1, false, 3), (2, false, 3), (3, true, 0), (4, true, 0), (5, false, 999)] (by kernel_rfl) (by kernel_rfl) ?_
      iterate 3 (refine wpCan_read rfl rfl (fun K hK => ?_); (first | ((refine still_ld _ _ rfl _ _ rfl _ HLN.out ?_); go_simp) | go_simp); refine hK _ ?_; clear hK K)
      refine wpCan_eff rfl ?_
      refine wpList_do rfl (fun K hK => ?_)
      go_simp
      refine HIN.out.mono ?_
      rintro e8 w8 ⟨rfl, hk8⟩
      have HS8 := Lib.hid ((HS7.out.kept hk8).front 6 rfl)
      clear hk8 HS7 HIN HLN
      obtain ⟨z0, z1, zf⟩ := cells2 (HS8.out.blk 1 rfl)
      refine hK _ _ ?_
      clear hK K
      refine wpList_nil ?_
      refine And.intro ?_ ?_
      · go_simp
      refine wpCan_eff rfl ?_
      refine wpList_store_whole rfl _ _ _ rfl tRq b3 rfl [hv2, wv2] rfl nQ HS8.out (by kernel_rfl) rfl HO2.out ?_
      intro w9 hs9
      have HS20 := Lib.hid hs9
      clear hs9 HS8 z0 z1 zf
      refine wpList_nil ?_
      refine And.intro ?_ ?_
      · go_simp
      iterate 1 (refine wpCan_read rfl rfl (fun K hK => ?_); (first | ((refine still_ld _ _ rfl _ _ rfl _ HLN.out ?_); go_simp) | go_simp); refine hK _ ?_; clear hK K)
      refine wpCan_nil ?_
      go_wp2_with fail
      refine bodyPost_ret (results_c2 rfl _ _ rfl (loadQ2 (blk_range (HS20.out.blk 0 rfl)))) rfl ?_
      refine ⟨_, D7, rfl, HLE3.out.trans HLE6.out, by rw [HDQ.out]; exact HQ6.out, ?_⟩
      rw [HDQ.out]
      exact que_mono_C (HS20.out.drop.drop.drop.swap.drop.swap.drop.swap.drop) HLE6.out
end Go.Proofs.YtkdinhlmghfpeaaGreatDoor
