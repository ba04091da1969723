/- Joined texts: Never more than there is room for: an act as data; what the law counts. LocksRoom (ratlinelaw11): never more than there is room for. -/
import Derived.Test.YtgljdkjepdknnaaGreatDoorMR48
import Derived.Test.YtgljdkjepdknnaaGreatDoorMR26
import Derived.Test.YtgljdkjepdknnaaGreatDoorMR35
import Derived.Test.YtgljdkjepdknnaaGreatDoorMR32
/- Never more than there is room for: an act as data; what the law counts. -/
namespace Go.Proofs.YtgljdkjepdknnaaGreatDoor
open Go.ChangeShapes Go.WideShapes Go.ChangeAt Go.RowKit
set_option linter.unusedSimpArgs false

theorem stepL_cost {ts : List (List Bool)} {room : Int} {m : LkM} {d : DocM} (hq : QOk m.q) (h : (costQ m.q : Int) ≤ room) (k o : Int) (c : Clm) (dur hand : Int) : (costQ (stepL ts room m d k o c dur hand).1.q : Int) ≤ room := by
 unfold stepL
 split
 ·exact room_over hq h o 1
 split
 ·exact room_over hq h o _
 split
 ·exact room_end hq h o
 split
 ·exact room_leave h o
 ·exact room_ask h _ o c dur hand
theorem clm0_sm (N : Nat) : ClmSm N clm0 := ⟨Nat.zero_le _, fun r hr => (by cases hr), .mk _ _ _ _ _ (Nat.zero_le _) (fun q hq => (by cases hq))⟩
theorem waits_sm {n : Nat} {Q : Qm Clm} (h : ScOk n Q) (hn : n ≤ 1000) (o : Int) : ClmSm 1000000 (waitsQ Q o).1 := by
 unfold waitsQ
 split
 ·split
  ·rename_i he
   exact (h.all.2 _ (List.mem_of_getElem? he)).sm hn
  ·exact clm0_sm _
 ·exact clm0_sm _
theorem twiceQ_le {Q : Qm Clm} (h : Q.held.length ≤ 1000) : ∀ n : Nat, twiceQ Q n ≤ n * 1000
 | 0 => Nat.le_refl _
 | n + 1 => by
  have h1 := twiceQ_le h n
  have h2 : ((holdsQ Q (n : Int)).filter (fun x => RC.same x (waitsQ Q (n : Int)).1)).length ≤ 1000 := Nat.le_trans (List.length_filter_le _ _) (Nat.le_trans (by unfold holdsQ; rw [List.length_map]; exact List.length_filter_le _ _) h)
  unfold twiceQ
  rw [Nat.add_mul]
  split
  ·exact Nat.add_le_add h1 (Nat.le_trans h2 (by decide))
  ·exact Nat.add_le_add h1 (by decide)
/-- of the first k of some claims those that are the same as what is waited for -/
noncomputable def cntW (wb : Bool) (wc : Clm) (cs : List ClmE) (k : Nat) : Nat := if wb then ((cs.take k).filter (fun x => RC.same x.c wc)).length else 0
theorem cntW_le (wb : Bool) (wc : Clm) (cs : List ClmE) (k : Nat) : cntW wb wc cs k ≤ k := by
 unfold cntW
 split
 ·exact Nat.le_trans (List.length_filter_le _ _) (by rw [List.length_take]; omega)
 ·omega
theorem cntW_no {wb : Bool} {wc : Clm} {cs : List ClmE} {k : Nat} {x : ClmE} (hx : cs[k]? = some x) (h : (wb && RC.same x.c wc) = false) : cntW wb wc cs (k + 1) = cntW wb wc cs k := by
 unfold cntW
 cases wb
 ·rfl
 ·rw [Bool.true_and] at h
  rw [List.take_add_one, hx, List.filter_append]
  simp [h]
theorem cntW_yes {wc : Clm} {cs : List ClmE} {k : Nat} {x : ClmE} (hx : cs[k]? = some x) (h : RC.same x.c wc = true) : cntW true wc cs (k + 1) = cntW true wc cs k + 1 := by
 unfold cntW
 rw [List.take_add_one, hx, List.filter_append]
 simp [h]
theorem cntW_all {Q : Qm Clm} {n : Nat} {cs : List ClmE} (h : cs.map ClmE.c = holdsQ Q (n : Int)) : twiceQ Q n + cntW (waitsQ Q (n : Int)).2 (waitsQ Q (n : Int)).1 cs cs.length = twiceQ Q (n + 1) := by
 conv => rhs; unfold twiceQ
 unfold cntW
 rw [← h, List.take_length, List.filter_map, List.length_map]
 rfl
end Go.Proofs.YtgljdkjepdknnaaGreatDoor

/- LocksRoom (ratlinelaw11): never more than there is room for. -/
namespace Go.Proofs.YtgljdkjepdknnaaGreatDoor
open Go.ChangeShapes Go.WideShapes Go.ChangeAt Go.RowKit
set_option maxRecDepth 100000
set_option linter.unusedSimpArgs false

theorem TblsAt.of_rd {w : World} {v : Value} {ts : List (List Bool)} (h : TblsRd w v ts) : TblsAt (heapOf w) v ts := by
 obtain ⟨hs, hl, hr, hc⟩ := h
 refine ⟨hs, hl, fun u hu => ?_, RdP.of_rd hr (by omega), fun i u r a b => RdP.of_rd (hc i u r a b) (by omega)⟩
 obtain ⟨i, hi⟩ := List.getElem?_of_mem hu
 have hlt := (List.getElem?_eq_some_iff.1 hi).1
 obtain ⟨r, hr'⟩ : ∃ r, ts[i]? = some r := ⟨ts[i]'(by omega), List.getElem?_eq_getElem _⟩
 obtain ⟨_, _, ao, cap, rfl, _⟩ := hc i u r hi hr'
 rfl
theorem sc_nil : ScOk 0 ⟨[], []⟩ := ⟨⟨List.Pairwise.nil, List.Pairwise.nil⟩, ⟨fun e he => (by cases he), fun e he => (by cases he)⟩, Nat.le_refl _⟩
set_option maxHeartbeats 32000000 in
theorem roomLaw_ok {W : World} {tv av : Value} {ts : List (List Bool)} {acts : List ActE} (room : Int) (tb : EnvD (heapOf W)) (ht : TblsRd W tv ts) (hz : ∀ c ∈ ts, c.length ≤ 140737488355328) (hv : ActsRd W av acts) :
  Calls Tryz.prog 5 #[tv, .int .i64 room, av] W fun r w' => r = .returned (.bool true) ∧ Kept (fun _ => False) W w' := by
 obtain ⟨D, hD⟩ : ∃ D, heapOf W = D := ⟨_, rfl⟩
 have hta : TblsAt D tv ts := by rw [← hD]; exact TblsAt.of_rd ht
 have HV := Lib.hid (show ActsD D av acts by rw [← hD]; exact ActsD.of_rd hv)
 have hE : EnvD D := by rw [← hD]; exact tb
 have HE := Lib.hid hE
 have HAW := Lib.hid (lawake_ok hE (show Sat W D W [] by rw [← hD]; exact Sat.start W))
 have HEND := Lib.hid (show ∀ (D' : PH) (w' : World), PH.le D D' → Sat W D' w' [] → Kept (fun _ => False) W w' from fun D' w' hle hs => hs.end_ (by rw [hD]; exact hle))
 obtain ⟨a, c, rfl, hN⟩ := HV.out.shape
 obtain ⟨us, _, _, hrd, _⟩ := id hta
 obtain ⟨ta, tc, rfl⟩ := hrd.shape
 have hml := hrd.2.1
 unfold maxLen at hml
 have HT := Lib.hid hta
 have HZ := Lib.hid hz
 obtain ⟨N, hNN⟩ : ∃ N, ts.length = N := ⟨_, rfl⟩
 have HNN := Lib.hid hNN
 clear hv tb hD ht hta hrd hE hz
 by_cases h5 : N ≤ 5
 rotate_left
 ·have h5i : (N : Int) > 5 := by omega
  rw [hNN]
  clear hNN
  go_enter Tryz.func5, Tryz.ntmps5
  go_wp2_with (go_at_call 11; refine HAW.out.mono ?_; rintro e1 w1 ⟨rfl, hs1⟩; have HS1 := Lib.hid hs1; clear hs1 HAW)
  go_ret
  exact ⟨rfl, HEND.out D _ (PH.le.refl _) HS1.out⟩
 have h5i : ¬ (N : Int) > 5 := by omega
 obtain ⟨rm, hrm⟩ : ∃ rm, rm = min (max room 0) 200 := ⟨_, rfl⟩
 have HRM := Lib.hid hrm
 have HR0 := Lib.hid (show 0 ≤ rm by rw [hrm]; omega)
 have HTN := Lib.hid (show TblsAt D (.slice ta N tc) ts by rw [← hNN]; exact HT.out)
 rw [hNN]
 clear hNN hrm HT hml
 go_enter Tryz.func5, Tryz.ntmps5
 go_upto_region 6 with (go_at_call 11; refine HAW.out.mono ?_; rintro e1 w1 ⟨rfl, hs1⟩; have HS1 := Lib.hid hs1; clear hs1 HAW)
 clear h5i
 have HNEW := Lib.hid (New_L room HTN.out (by have := HNN.out; omega) HZ.out HS1.out)
 rw [← HRM.out] at HNEW
 clear HS1
 go_upto_region 7 with (go_at_call 12; refine HNEW.out.mono ?_; rintro e2 w2 ⟨L, D2, rfl, hle2, hs2⟩; have HLE2 := Lib.hid hle2; have HS2 := Lib.hid hs2; clear hle2 hs2 HNEW)
 have HDN := Lib.hid (rNew_ok room (HTN.out.mono HLE2.out) HS2.out)
 clear HS2
 go_upto_region 8 with (first | (go_at_call 22; refine HDN.out.mono ?_; rintro e3 w3 ⟨v3, D3, rfl, hle3, hd3, hs3⟩; obtain ⟨y0, y1, y2, y3, y4, rfl, hy⟩ := doc5 hd3; have HLE3 := Lib.hid (HLE2.out.trans hle3); have HD3 := Lib.hid hd3; have HY := Lib.hid hy; have HS3 := Lib.hid (hs3.alloc #[y0, y1, y2, y3, y4] tLkV); have HLL := Lib.hid hle3; clear hle3 hd3 hy hs3 HDN) | (refine wpList_store_new rfl _ _ _ rfl [y0, y1, y2, y3, y4] _ _ rfl rfl (by kernel_rfl) rfl HY.out ?_))
 obtain ⟨W4, hW4, hs4⟩ := Sat.hide HS3.out
 rw [← hW4]
 clear hW4 HS3
 generalize w3.heap.size = b9 at hs4 ⊢
 have HS4 := Lib.hid (show Sat W D3 W4 [blk b9 #[y0, y1, y2, y3, y4] tLkV, lksC D3 L ts rm ⟨⟨[], []⟩, []⟩] from (lks_mono hs4.swap HLL.out).swap)
 clear hs4 HLL
 go_upto_region 9 with fail
 have HRI := Lib.hid (show (if 200 < (if room < 0 then 0 else room) then 200 else if room < 0 then 0 else room) = rm by rw [HRM.out]; split <;> split <;> omega)
 first
  | (rw [← HRM.out]; generalize max room 0 = mr0 at *)
  | (rw [HRI.out]; clear HRI; generalize (if room < 0 then 0 else room) = mr0)
 go_wp2_with fail
 go_loopw [11] (fun ii wr => ∃ (j : Nat) (D1 : PH) (m : LkM) (d : DocM) (y0 y1 y2 y3 y4 : Value), ii = .int .i64 j ∧ j ≤ acts.length ∧ j ≤ 40 ∧ PH.le D D1 ∧ LkOk j m d ∧ (costQ m.q : Int) ≤ rm ∧ DocD D1 (.agg #[y0, y1, y2, y3, y4]) d ∧ Sat W D1 wr [blk b9 #[y0, y1, y2, y3, y4] tLkV, lksC D1 L ts rm m]) (fun ii _ => 40 - (intOf ii).toNat)
 case atStart => exact ⟨0, D3, _, _, y0, y1, y2, y3, y4, rfl, Nat.zero_le _, by omega, HLE3.out, ⟨sc_nil, Nat.le_refl _, sc_nil, Nat.le_refl _⟩, by show ((0 : Nat) : Int) ≤ rm; have := HR0.out; omega, HD3.out, HS4.out⟩
 case round =>
  obtain ⟨j, D1, m, d, y0, y1, y2, y3, y4, rfl, hj, hj40, hle, hok, hcost, hd, hs⟩ := hrel
  have HLE := Lib.hid hle
  have HOK := Lib.hid hok
  have HCOST := Lib.hid hcost
  have HD := Lib.hid hd
  have HS := Lib.hid hs
  clear hle hok hcost hd hs HS4 HD3 HY HLE3
  by_cases hlt : j < acts.length ∧ j < 40
  rotate_left
  ·by_cases h1 : j < acts.length
   ·have hji : (j : Int) < (acts.length : Int) := by omega
    have hji2 : ¬ ((j : Int) < 40) := by omega
    go_wp2_with fail
    go_ret
    exact ⟨rfl, HEND.out D1 _ HLE.out HS.out.drop.drop⟩
   ·have hji : ¬ ((j : Int) < (acts.length : Int)) := by omega
    go_wp2_with fail
    go_ret
    exact ⟨rfl, HEND.out D1 _ HLE.out HS.out.drop.drop⟩
  have hji : (j : Int) < (acts.length : Int) := by omega
  have hji2 : (j : Int) < 40 := by omega
  obtain ⟨x, hx⟩ : ∃ x, acts[j]? = some x := ⟨acts[j]'hlt.1, List.getElem?_eq_getElem _⟩
  obtain ⟨g, og, hg, hr, hr2, hxo, hfit⟩ := actAt (HV.out.mono HLE.out) HS.out rfl hx
  subst hg
  have HX := Lib.hid hx
  have HXO := Lib.hid hxo
  have HFIT := Lib.hid hfit
  have HL := Lib.hid (loadCl hr2)
  have HFW := Lib.hid (few_ok (hxo.rd HS.out))
  clear hx hr hr2 hxo hfit
  cases hfew : fewB x.x.c
  ·rw [hfew] at HFW
   clear hfew
   go_wp2_with (first | (refine wpList_ld rfl _ _ rfl _ _ rfl _ HL.out ?_) | (go_at_call 23; refine HFW.out.mono ?_; rintro e5 w5 ⟨rfl, hk5⟩; have HS5 := Lib.hid (HS.out.kept hk5); clear hk5 HS HFW HL))
   go_roundw
   case rel => exact ⟨j + 1, D1, m, d, y0, y1, y2, y3, y4, by go_num, by omega, by omega, HLE.out, HOK.out.mono (Nat.le_succ j), HCOST.out, HD.out, HS5.out⟩
   case measure => simp [intOf]; omega
  rw [hfew] at HFW
  have HF := Lib.hid hfew
  clear hfew
  go_upto_region 13 with (first | (refine wpList_ld rfl _ _ rfl _ _ rfl _ HL.out ?_) | (go_at_call 23; refine HFW.out.mono ?_; rintro e5 w5 ⟨rfl, hk5⟩; have HS5 := Lib.hid (HS.out.kept hk5); clear hk5 HS HFW HL))
  obtain ⟨g2, og2, hg2, hr, _⟩ := actAt (HV.out.mono HLE.out) HS5.out rfl HX.out
  cases hg2
  have x0 : w5.cell? ⟨g, og + j * 22, none⟩ = some (.int .i64 x.kind) := hr 0 _ rfl
  clear hr
  obtain ⟨kn, hkn⟩ : ∃ kn, bits .and .i64 x.kind 15 = kn := ⟨_, rfl⟩
  by_cases h15 : kn = 15
  ·subst h15
   go_wp2_with fail
   go_roundw
   case rel => exact ⟨j + 1, D1, m, d, y0, y1, y2, y3, y4, by go_num, by omega, by omega, HLE.out, HOK.out.mono (Nat.le_succ j), HCOST.out, HD.out, HS5.out⟩
   case measure => simp [intOf]; omega
  have e15 : (kn == 15) = false := by simpa using h15
  have H15 := Lib.hid (show bits .and .i64 x.kind 15 ≠ 15 by rw [hkn]; exact h15)
  go_upto_region 14 with fail
  clear e15 hkn h15 x0
  have HS6 := Lib.hid HS5.out.drew
  clear HS5
  obtain ⟨g2, og2, hg2, hr, _⟩ := actAt (HV.out.mono HLE.out) HS6.out rfl HX.out
  cases hg2
  have HLA := Lib.hid (loadAct hr)
  have HLV := Lib.hid (loadLkV (HS6.out.blk 0 rfl))
  have HDONE := Lib.hid (done_L x (HE.out.mono HLE.out) HD.out HOK.out (by omega) HXO.out HFIT.out HF.out H15.out HS6.out.swap)
  obtain ⟨on, hon, ho7⟩ := and7n x.owner
  have hok2 := stepL_ok (ts := ts) (room := rm) HOK.out (bits .and .i64 x.kind 15) (o := (on : Int)) ⟨by omega, by omega⟩ HFIT.out HF.out x.dur x.hand
  have hco2 := stepL_cost (ts := ts) (room := rm) (d := d) HOK.out.q.ok HCOST.out (bits .and .i64 x.kind 15) (on : Int) x.x.c x.dur x.hand
  rw [← hon] at hok2 hco2
  obtain ⟨R, hR⟩ : ∃ R, actL ts rm m d x = R := ⟨_, rfl⟩
  rw [show stepL ts rm m d (bits .and .i64 x.kind 15) (bits .and .i64 x.owner 7) x.x.c x.dur x.hand = R from hR] at hok2 hco2
  rw [hR] at HDONE
  obtain ⟨m2, d2, rb⟩ := R
  have HOK2 := Lib.hid (show LkOk (j + 1) m2 d2 from hok2)
  have HCO2 := Lib.hid (show (costQ m2.q : Int) ≤ rm from hco2)
  clear hr hok2 hco2 hon ho7 hR
  refine wp_region_canon [(0, false, 6), (1, false, 6), (2, false, 6), (3, false, 6), (4, false, 6), (5, false, 6), (6, true, 0), (7, false, 10), (8, false, 10), (9, false, 999), (10, true, 0)] (by kernel_rfl) (by kernel_rfl) ?_
  iterate 6 (refine wpCan_read rfl rfl (fun K hK => ?_); (first | ((refine still_ld _ _ rfl _ _ rfl _ HLV.out ?_); go_simp) | ((refine still_ld _ _ rfl _ _ rfl _ HLA.out ?_); go_simp) | go_simp); refine hK _ ?_; clear hK K)
  refine wpCan_eff rfl ?_
  refine wpList_do rfl (fun K hK => ?_)
  go_simp
  refine HDONE.out.mono ?_
  rintro e6 w6 ⟨v6, D6, rfl, hle6, hd6, hs6⟩
  obtain ⟨z0, z1, z2, z3, z4, rfl, hz5⟩ := doc5 hd6
  have HZ5 := Lib.hid hz5
  have HD6 := Lib.hid hd6
  have HLE6 := Lib.hid (HLE.out.trans hle6)
  have HS7 := Lib.hid hs6.swap
  clear hle6 hs6 hd6 hz5 HDONE HLA HLV HS6
  refine hK _ _ ?_
  clear hK K
  refine wpList_nil ?_
  refine And.intro ?_ ?_
  ·go_simp
  iterate 3 (refine wpCan_read rfl rfl (fun K hK => ?_); (first | ((refine still_ld _ _ rfl _ _ rfl _ HLV.out ?_); go_simp) | ((refine still_ld _ _ rfl _ _ rfl _ HLA.out ?_); go_simp) | go_simp); refine hK _ ?_; clear hK K)
  refine wpCan_eff rfl ?_
  refine wpList_store_whole rfl _ _ _ rfl tLkV b9 rfl [z0, z1, z2, z3, z4] rfl _ HS7.out (by kernel_rfl) rfl HZ5.out ?_
  intro w9 hs9
  have HS9 := Lib.hid hs9
  clear hs9 HS7
  refine wpList_nil ?_
  refine And.intro ?_ ?_
  ·go_simp
  refine wpCan_nil ?_
  clear HOK HCOST HD HLE
  have hm900 := HOK2.out.q.len
  have HTW := Lib.hid (twiceQ_le (Q := m2.q) (by omega))
  go_wp2_with fail
  go_loopw [13, 14] (fun tt ii wr => ∃ (k : Nat) (D2 : PH), ii = .int .i64 k ∧ tt = .int .i64 (twiceQ m2.q k : Nat) ∧ k ≤ 8 ∧ PH.le D6 D2 ∧ Sat W D2 wr [blk b9 #[z0, z1, z2, z3, z4] tLkV, lksC D2 L ts rm m2]) (fun _ ii _ => 8 - (intOf ii).toNat)
  case atStart => exact ⟨0, D6, rfl, rfl, by omega, PH.le.refl _, HS9.out⟩
  case round =>
   obtain ⟨k, D2, rfl, rfl, hk8, hle2, hs2⟩ := hrel
   have HLD := Lib.hid hle2
   have HS2 := Lib.hid hs2
   clear hle2 hs2 HS9
   by_cases hk : k < 8
   rotate_left
   ·have hki : ¬ ((k : Int) < 8) := by omega
    obtain rfl : k = 8 := by omega
    have HLN := Lib.hid (Len_L (by omega) HS2.out.swap)
    have hlaw := room_law HOK2.out.q.ok (fun e he => (HOK2.out.q.all.2 e he).1) HCO2.out
    have ht8 := HTW.out 8
    generalize twiceQ m2.q 8 = t8 at *
    obtain ⟨lq, hlq⟩ : ∃ lq, m2.q.held.length + m2.q.waits.length = lq := ⟨_, rfl⟩
    rw [hlq] at HLN hlaw hm900
    have hgt : ¬ ((lq : Int) - (t8 : Int) > rm) := by omega
    clear hlq hlaw
    go_wp2_with (go_at_call 27; refine HLN.out.mono ?_; rintro e10 w10 ⟨rfl, hk10⟩; have HS10 := Lib.hid (HS2.out.kept hk10); clear hk10 HLN HS2)
    go_roundw
    case rel => exact ⟨j + 1, D2, m2, d2, z0, z1, z2, z3, z4, by go_num, by omega, by omega, HLE6.out.trans HLD.out, HOK2.out, HCO2.out, HD6.out.mono HLD.out, HS10.out⟩
    case measure => simp [intOf]; omega
   have hki : (k : Int) < 8 := by omega
   have HWT := Lib.hid (Waits_L (k : Int) (waits_sm HOK2.out.q (by omega) _) HS2.out.swap)
   clear HS2
   go_upto_region 20 with (first | (go_at_call 25; refine HWT.out.mono ?_; rintro e10 w10 ⟨z, D4, rfl, hzc, hle4, hzo, hs4⟩; have HZC := Lib.hid hzc; have HZO := Lib.hid hzo; have HLE4 := Lib.hid (HLD.out.trans hle4); have HLM := Lib.hid hle4; have HSA := Lib.hid (hs4.alloc z.cells.toArray tCl); clear hzc hzo hle4 hs4 HWT) | (refine wpList_store_new rfl _ _ _ rfl z.cells _ _ rfl rfl (by kernel_rfl) rfl (ClmE.one z) ?_))
   obtain ⟨WA, hWA, hsa⟩ := Sat.hide HSA.out
   rw [← hWA]
   clear hWA HSA
   generalize w10.heap.size = bz at hsa ⊢
   have HHO := Lib.hid (Holds_L (k : Int) (by omega) (fun e he => (HOK2.out.q.all.1 e he).sm (by omega)) (lks_mono hsa.swap HLM.out))
   clear hsa
   obtain ⟨wb, hwb⟩ : ∃ wb, (waitsQ m2.q (k : Int)).2 = wb := ⟨_, rfl⟩
   rw [hwb]
   go_upto_region 21 with (go_at_call 17; refine HHO.out.mono ?_; rintro e11 w11 ⟨v11, D5, rfl, hle5, hs5⟩; obtain ⟨cs, hcm, hco, hs6⟩ := clmsOpen hs5; obtain ⟨a5, c5, rfl⟩ := hs6.own_shape; have HLE5 := Lib.hid (HLE4.out.trans hle5); have HL5 := Lib.hid hle5; have HZ6 := Lib.hid (HZO.out.mono hle5); have HCM := Lib.hid hcm; have HCO := Lib.hid hco; have HSB := Lib.hid hs6; clear hle5 hs5 hs6 hcm hco HHO)
   have hcl := (HSB.out.own 0 rfl).rd.2.1
   unfold maxLen at hcl
   have hcl2 : cs.length ≤ 900 := by
    have h := congrArg List.length HCM.out
    rw [List.length_map] at h
    have h2 : (holdsQ m2.q (k : Int)).length ≤ m2.q.held.length := by unfold holdsQ; rw [List.length_map]; exact List.length_filter_le _ _
    omega
   have HALL := Lib.hid (cntW_all HCM.out)
   rw [hwb, ← HZC.out] at HALL
   have htk := HTW.out k
   obtain ⟨t0, ht0⟩ : ∃ t0, twiceQ m2.q k = t0 := ⟨_, rfl⟩
   rw [ht0] at HALL htk ⊢
   clear ht0 hwb
   obtain ⟨M, hM⟩ : ∃ M, cs.length = M := ⟨_, rfl⟩
   have HM := Lib.hid hM
   rw [hM] at HALL hcl hcl2 ⊢
   have HSC := Lib.hid (show Sat W D5 w11 [ownS tCl 16 (.slice a5 M c5) M (cs.flatMap ClmE.cells), lksC D5 L ts rm m2, blk bz z.cells.toArray tCl, blk b9 #[z0, z1, z2, z3, z4] tLkV] from by have h := HSB.out; rw [hM] at h; exact (lks_mono h.swap HL5.out).swap)
   clear hM HSB
   go_wp2_with fail
   go_loopw [13, 18] (fun tt ii wr => ∃ (i : Nat), ii = .int .i64 i ∧ tt = .int .i64 ((t0 + cntW wb z.c cs i : Nat) : Int) ∧ i ≤ M ∧ Sat W D5 wr [ownS tCl 16 (.slice a5 M c5) M (cs.flatMap ClmE.cells), lksC D5 L ts rm m2, blk bz z.cells.toArray tCl, blk b9 #[z0, z1, z2, z3, z4] tLkV]) (fun _ ii _ => M - (intOf ii).toNat)
   case atStart => exact ⟨0, rfl, by rw [show cntW wb z.c cs 0 = 0 by have := cntW_le wb z.c cs 0; omega]; rfl, by omega, HSC.out⟩
   case round =>
    obtain ⟨i, rfl, rfl, hi, hs3⟩ := hrel
    have HS3 := Lib.hid hs3
    clear hs3 HSC
    have hcw := cntW_le wb z.c cs i
    by_cases hlt2 : i < M
    rotate_left
    ·have hii : ¬ ((i : Int) < (M : Int)) := by omega
     obtain rfl : i = M := by omega
     rw [HALL.out]
     go_wp2_with fail
     go_roundw
     case rel => exact ⟨k + 1, D5, by go_num, rfl, by omega, HLE5.out, HS3.out.drop.swap.drop.swap⟩
     case measure => simp [intOf]; omega
    have hii : (i : Int) < (M : Int) := by omega
    obtain ⟨y, hy⟩ : ∃ y, cs[i]? = some y := ⟨cs[i]'(by rw [HM.out]; exact hlt2), List.getElem?_eq_getElem _⟩
    obtain ⟨n0, hn0⟩ : ∃ n0, cntW wb z.c cs i = n0 := ⟨_, rfl⟩
    have HN0 := Lib.hid hn0
    rw [hn0] at hcw ⊢
    have HYO := Lib.hid (HCO.out y (List.mem_of_getElem? hy))
    obtain ⟨g3, og3, hg3, hrng⟩ := elem_range ClmE.len (by have := (HS3.out.drew.own 0 rfl).rd; rw [← HM.out] at this; exact this) hy rfl
    cases hg3
    have HLY := Lib.hid (loadCl (w := wr.drew) hrng)
    have HLZ := Lib.hid (loadCl (w := wr.drew) (blk_range (HS3.out.drew.blk 2 rfl)))
    have HSS := Lib.hid (rcSame_ok (HYO.out.rd HS3.out.drew) (HZ6.out.rd HS3.out.drew))
    have HYI := Lib.hid hy
    clear hn0 hy hrng
    go_upto_region 24 with fail
    cases wb
    ·have HST := Lib.hid ((cntW_no (wb := false) (wc := z.c) HYI.out rfl).trans HN0.out)
     refine wp_region_canon [(0, false, 7), (1, false, 7), (2, false, 7), (3, false, 7), (4, false, 7), (5, false, 7), (6, false, 7), (7, true, 0), (8, false, 999)] (by kernel_rfl) (by kernel_rfl) ?_
     iterate 2 (refine wpCan_read rfl rfl (fun K hK => ?_); go_simp; refine hK _ ?_; clear hK K)
     iterate 5 (first | (refine wpCan_no rfl rfl ?_; simp only [Act.put, List.setIfInBounds_toArray, List.set_cons_succ, List.set_cons_zero, List.getElem_toArray, List.getElem_cons_succ, List.getElem_cons_zero]) | (refine wpCan_yes rfl rfl (fun K hK => ?_); go_simp; refine hK _ ?_; clear hK K))
     refine wpCan_eff rfl ?_
     refine wpList_not rfl ?_
     simp only [Act.put, List.setIfInBounds_toArray, List.set_cons_succ, List.set_cons_zero]
     refine wpList_nil ?_
     refine And.intro ?_ ?_
     ·go_simp
     iterate 1 (refine wpCan_read rfl rfl (fun K hK => ?_); go_simp; refine hK _ ?_; clear hK K)
     refine wpCan_nil ?_
     go_wp2_with fail
     go_roundw
     case rel => exact ⟨i + 1, by go_num, by rw [HST.out, Int.natCast_add], by omega, HS3.out.drew⟩
     case measure => simp [intOf]; omega
    ·cases hsm : RC.same y.c z.c
     ·rw [hsm] at HSS
      have HST := Lib.hid ((cntW_no (wb := true) (wc := z.c) HYI.out (by rw [hsm]; rfl)).trans HN0.out)
      clear hsm
      refine wp_region_canon [(0, false, 7), (1, false, 7), (2, false, 7), (3, false, 7), (4, false, 7), (5, false, 7), (6, false, 7), (7, true, 0), (8, false, 999)] (by kernel_rfl) (by kernel_rfl) ?_
      iterate 2 (refine wpCan_read rfl rfl (fun K hK => ?_); (first | ((refine still_ld _ _ rfl _ _ rfl _ HLY.out ?_); go_simp) | ((refine still_ld _ _ rfl _ _ rfl _ HLZ.out ?_); go_simp) | go_simp); refine hK _ ?_; clear hK K)
      iterate 5 (first | (refine wpCan_no rfl rfl ?_; simp only [Act.put, List.setIfInBounds_toArray, List.set_cons_succ, List.set_cons_zero, List.getElem_toArray, List.getElem_cons_succ, List.getElem_cons_zero]) | (refine wpCan_yes rfl rfl (fun K hK => ?_); (first | ((refine still_ld _ _ rfl _ _ rfl _ HLY.out ?_); go_simp) | ((refine still_ld _ _ rfl _ _ rfl _ HLZ.out ?_); go_simp) | go_simp); refine hK _ ?_; clear hK K))
      refine wpCan_eff rfl ?_
      refine wpList_do rfl (fun K hK => ?_)
      go_simp
      refine HSS.out.mono ?_
      rintro e12 w12 ⟨rfl, hk12⟩
      have HS4 := Lib.hid (HS3.out.drew.kept hk12)
      clear hk12 HSS HLY HLZ HS3
      refine hK _ _ ?_
      clear hK K
      refine wpList_nil ?_
      refine And.intro ?_ ?_
      ·go_simp
      iterate 1 (refine wpCan_read rfl rfl (fun K hK => ?_); (first | ((refine still_ld _ _ rfl _ _ rfl _ HLY.out ?_); go_simp) | ((refine still_ld _ _ rfl _ _ rfl _ HLZ.out ?_); go_simp) | go_simp); refine hK _ ?_; clear hK K)
      refine wpCan_nil ?_
      go_wp2_with fail
      go_roundw
      case rel => exact ⟨i + 1, by go_num, by rw [HST.out, Int.natCast_add], by omega, HS4.out⟩
      case measure => simp [intOf]; omega
     ·rw [hsm] at HSS
      have HST := Lib.hid ((cntW_yes HYI.out hsm).trans (congrArg (· + 1) HN0.out))
      clear hsm
      refine wp_region_canon [(0, false, 7), (1, false, 7), (2, false, 7), (3, false, 7), (4, false, 7), (5, false, 7), (6, false, 7), (7, true, 0), (8, false, 999)] (by kernel_rfl) (by kernel_rfl) ?_
      iterate 2 (refine wpCan_read rfl rfl (fun K hK => ?_); (first | ((refine still_ld _ _ rfl _ _ rfl _ HLY.out ?_); go_simp) | ((refine still_ld _ _ rfl _ _ rfl _ HLZ.out ?_); go_simp) | go_simp); refine hK _ ?_; clear hK K)
      iterate 5 (first | (refine wpCan_no rfl rfl ?_; simp only [Act.put, List.setIfInBounds_toArray, List.set_cons_succ, List.set_cons_zero, List.getElem_toArray, List.getElem_cons_succ, List.getElem_cons_zero]) | (refine wpCan_yes rfl rfl (fun K hK => ?_); (first | ((refine still_ld _ _ rfl _ _ rfl _ HLY.out ?_); go_simp) | ((refine still_ld _ _ rfl _ _ rfl _ HLZ.out ?_); go_simp) | go_simp); refine hK _ ?_; clear hK K))
      refine wpCan_eff rfl ?_
      refine wpList_do rfl (fun K hK => ?_)
      go_simp
      refine HSS.out.mono ?_
      rintro e12 w12 ⟨rfl, hk12⟩
      have HS4 := Lib.hid (HS3.out.drew.kept hk12)
      clear hk12 HSS HLY HLZ HS3
      refine hK _ _ ?_
      clear hK K
      refine wpList_nil ?_
      refine And.intro ?_ ?_
      ·go_simp
      iterate 1 (refine wpCan_read rfl rfl (fun K hK => ?_); (first | ((refine still_ld _ _ rfl _ _ rfl _ HLY.out ?_); go_simp) | ((refine still_ld _ _ rfl _ _ rfl _ HLZ.out ?_); go_simp) | go_simp); refine hK _ ?_; clear hK K)
      refine wpCan_nil ?_
      go_wp2_with fail
      go_roundw
      case rel => exact ⟨i + 1, by go_num, by rw [HST.out]; go_num, by omega, HS4.out⟩
      case measure => simp [intOf]; omega
end Go.Proofs.YtgljdkjepdknnaaGreatDoor
