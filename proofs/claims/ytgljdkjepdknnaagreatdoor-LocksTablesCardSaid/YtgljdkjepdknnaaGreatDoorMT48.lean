/- LocksTables (ratlinelaw11): a table in the place of rows. (printed by genlktabs.py) -/
import Derived.Test.YtgljdkjepdknnaaGreatDoorMT46
import Derived.Test.YtgljdkjepdknnaaGreatDoorMT43
import Derived.Test.YtgljdkjepdknnaaGreatDoorMT26
import Derived.Test.YtgljdkjepdknnaaGreatDoorMT29
import Derived.Test.YtgljdkjepdknnaaGreatDoorMT19
import Derived.Test.YtgljdkjepdknnaaGreatDoorMT47
import Derived.Deep.DeepCutAuto
set_option maxHeartbeats 64000000
namespace Go.Proofs.YtgljdkjepdknnaaGreatDoor
open Go.ChangeShapes Go.WideShapes Go.ChangeAt Go.RowKit
set_option maxRecDepth 100000
set_option linter.unusedSimpArgs false
def ej (table : Int) (y : ClmE) : Bool := decide (y.kind = 2) && decide (y.table = table)
def cR (table : Int) (y : ClmE) : Bool := decide (y.kind = 1) && decide (y.table = table) && (decide (y.mode = 3) || decide (y.mode = 4) || decide (y.mode = 5) || decide (y.mode = 6))
theorem ri {q : Qm Clm} {o table : Int} {s : List ClmE} (h : s.map ClmE.c = aE q o) : (s.filter (ej table)).length = (aR q o table).length := by
 unfold aR
 rw [← h, List.filter_map, List.length_map]
 rfl
theorem and7s (on : Nat) (h : on ≤ 7) : ∃ p : Nat, bits .and .i64 ((on : Int) + 1) 7 = (p : Int) ∧ p ≤ 7 ∧ (p : Int) ≠ (on : Int) := by
 have h8 : on = 0 ∨ on = 1 ∨ on = 2 ∨ on = 3 ∨ on = 4 ∨ on = 5 ∨ on = 6 ∨ on = 7 := by omega
 rcases h8 with rfl | rfl | rfl | rfl | rfl | rfl | rfl | rfl
 ·exact ⟨1, by decide, by omega, by omega⟩
 ·exact ⟨2, by decide, by omega, by omega⟩
 ·exact ⟨3, by decide, by omega, by omega⟩
 ·exact ⟨4, by decide, by omega, by omega⟩
 ·exact ⟨5, by decide, by omega, by omega⟩
 ·exact ⟨6, by decide, by omega, by omega⟩
 ·exact ⟨7, by decide, by omega, by omega⟩
 ·exact ⟨0, by decide, by omega, by omega⟩
theorem pI {q q' : Qm Clm} {p : Int} (h : Covd q.held q'.held p) {s s' : List ClmE} (h1 : s.map ClmE.c = aE q p) (h2 : s'.map ClmE.c = aE q' p) {y : ClmE} (hy : y ∈ s) : s'.any (fun z => RC.cov z.c y.c) = true := by
 obtain ⟨e, he, heo, hec⟩ := iR (show y.c ∈ aE q p by rw [← h1]; exact List.mem_map.2 ⟨y, hy, rfl⟩)
 obtain ⟨e', he', heo', hc⟩ := h e he heo
 have h3 : e'.c ∈ s'.map ClmE.c := by rw [h2]; exact pD he' heo'
 obtain ⟨z, hz, hzc⟩ := List.mem_map.1 h3
 exact List.any_eq_true.2 ⟨z, hz, by rw [hzc, ← hec]; exact hc⟩
theorem lN {W : World} {tv av : Value} {ts : List (List Bool)} {acts : List ActE} (x : ActE) (tb : EnvD (cD W)) (ht : TblsRd W tv ts) (hz : ∀ c ∈ ts, c.length ≤ 140737488355328) (hv : nT W av acts) (hx : RdCl W x.x) (hf : bS x.x.c) :
  Calls Tryz.prog 4 #[tv, av, .agg x.cells.toArray] W fun r w' => r = .returned (.bool true) ∧ Kept (fun _ => False) W w' := by
 obtain ⟨D, hD⟩ : ∃ D, cD W = D := ⟨_, rfl⟩
 have hta : TblsAt D tv ts := by rw [← hD]; exact TblsAt.of_rd ht
 have HV := BO (show ActsD D av acts by rw [← hD]; exact ActsD.of_rd hv)
 have hE : EnvD D := by rw [← hD]; exact tb
 have HE := BO hE
 have yA := BO (show ClOk D x.x by rw [← hD]; exact ClOk.of_rd hx)
 have zl := BO hf
 obtain ⟨W1, hW1, hs1⟩ := Sat.hide ((show Sat W D W [] by rw [← hD]; exact Sat.start W).alloc x.cells.toArray kN)
 have sR := BO hW1
 have z6 := BO (qm hE hs1)
 have yJ := BO (show ∀ (D' : PH) (w' : World), PH.le D D' → Sat W D' w' [] → Kept (fun _ => False) W w' from fun D' w' hle hs => hs.end_ (by rw [hD]; exact hle))
 obtain ⟨a, c, rfl, hN⟩ := HV.out.shape
 obtain ⟨us, _, _, hrd, _⟩ := id hta
 obtain ⟨ta, tc, rfl⟩ := hrd.shape
 have hml := hrd.2.1
 unfold maxLen at hml
 have HT := BO hta
 have HZ := BO hz
 obtain ⟨N, hNN⟩ : ∃ N, ts.length = N := ⟨_, rfl⟩
 have wn := BO hNN
 obtain ⟨on, hon, ho7⟩ := oU x.owner
 have BI := BO hon
 clear hv tb hD ht hta hrd hE hz hx hf hW1 hs1 hon
 have AE := BO (show TblsAt D (.slice ta N tc) ts by rw [← hNN]; exact HT.out)
 rw [hNN]
 clear hNN HT yA zl
 go_enter Tryz.func4, Tryz.ntmps4
 go_upto_region 1 with fail
 rw [← sR.out]
 clear sR
 generalize W.heap.size = ba at *
 by_cases h5 : N ≤ 5
 rotate_left
 ·have h5i : (N : Int) > 5 := by omega
  go_wp2_with (go_at_call 11; refine z6.out.mono ?_; rintro e1 w1 ⟨rfl, hs1⟩; have sX := BO hs1; clear hs1 z6)
  go_ret
  exact ⟨rfl, yJ.out D _ (PH.le.refl _) sX.out.drop⟩
 have h5i : ¬ (N : Int) > 5 := by omega
 go_upto_region 6 with (go_at_call 11; refine z6.out.mono ?_; rintro e1 w1 ⟨rfl, hs1⟩; have sX := BO hs1; clear hs1 z6)
 clear h5i
 have HB := BO (rD 200 HE.out AE.out HZ.out (by have := wn.out; omega) HV.out sX.out)
 clear sX
 go_upto_region 7 with (go_at_call 18; refine HB.out.mono ?_; rintro e3 w3 ⟨L, D1, m, rm, rfl, hle, hF, hs2⟩; have tt := BO hle; have HF := BO hF; have tZ := BO hs2; clear hle hF hs2 HB)
 obtain ⟨x0, x1, x2, x3, x4, x5⟩ := dd (tZ.out.blk 1 rfl)
 have hon := BI.out
 obtain ⟨pn, hpn, hp7, hpo⟩ := and7s on ho7
 have hwr : IntKind.i64.wrap ((on : Int) + 1) = (on : Int) + 1 := IntWalk.i64_in _ (by omega)
 have Bf := BO hpn
 have BJ := BO hpo
 clear hpn hpo
 go_upto_region 8 with fail
 clear hon x0 x1 x2 x3 x4 x5
 have ue := BO (iy (on : Int) (by have := HF.out.len; omega) (HF.out.sm (by decide)) tZ.out)
 go_upto_region 9 with (first | (go_at_call 17; refine ue.out.mono ?_; rintro ea wa ⟨va, Da, rfl, hlea, hsa⟩; have Bg := BO hlea; have Bh := BO (cu hsa.swap hlea).swap; clear hlea hsa ue tZ))
 obtain ⟨s1, hcm1, hco1, hs1⟩ := d4 Bh.out
 obtain ⟨a1, c1, rfl⟩ := hs1.own_shape
 have hcl1 := (hs1.own 0 rfl).rd.2.1
 unfold maxLen at hcl1
 have xW := BO hcm1
 have AH := BO hco1
 have sS := BO hs1.swap
 clear hcm1 hco1 hs1 Bh
 have hpn := Bf.out
 have ue := BO (iy (pn : Int) (by have := HF.out.len; omega) (HF.out.sm (by decide)) sS.out)
 go_upto_region 10 with (first | (go_at_call 17; refine ue.out.mono ?_; rintro eb wb ⟨vb, D2, rfl, hleb, hsb⟩; have AI := BO hleb; have Bi := BO (cu hsb.swap hleb).swap; clear hleb hsb ue sS))
 obtain ⟨s2, hcm2, hco2, hs2⟩ := d4 Bi.out
 obtain ⟨a2, c2, rfl⟩ := hs2.own_shape
 have hcl2 := (hs2.own 0 rfl).rd.2.1
 unfold maxLen at hcl2
 have wR := BO hcm2
 have AJ := BO hco2
 have sX := BO hs2.swap
 clear hcm2 hco2 hs2 Bi
 clear hpn hwr
 have yj := BO (ri (table := x.table) xW.out)
 obtain ⟨x0, x1, x2, x3, x4, x5⟩ := dd (sX.out.blk 3 rfl)
 have Bj := BO (show ∀ (w : World), Sat W D2 w [b7 D2 L ts rm m, dI (.slice a2 s2.length c2) s2, dI (.slice a1 s1.length c1) s1, blk ba x.cells.toArray kN] → w.cell? ⟨ba, 20, none⟩ = some (.int .i64 x.table) from fun w h => (dd (h.blk 3 rfl)).2.2.2.2.1)
 clear x0 x1 x2 x3 x4 x5
 go_wp2_with fail
 go_loopw [12, 13] (fun nv ii wr => ∃ j : Nat, nv = .int .i64 (((s1.take j).filter (ej x.table)).length : Int) ∧ ii = .int .i64 j ∧ j ≤ s1.length ∧ Sat W D2 wr [b7 D2 L ts rm m, dI (.slice a2 s2.length c2) s2, dI (.slice a1 s1.length c1) s1, blk ba x.cells.toArray kN]) (fun _ ii _ => s1.length - (intOf ii).toNat)
 case atStart => exact ⟨0, rfl, rfl, by omega, sX.out⟩
 case round =>
  obtain ⟨j, rfl, rfl, hj, hs⟩ := hrel
  have hfl : ((s1.take j).filter (ej x.table)).length ≤ j := Nat.le_trans (List.length_filter_le _ _) (by rw [List.length_take]; omega)
  have uv := BO hs
  clear hs sX
  by_cases hlt : j < s1.length
  ·have hji : (j : Int) < (s1.length : Int) := by omega
   obtain ⟨y, hy⟩ : ∃ y, s1[j]? = some y := ⟨s1[j]'hlt, List.getElem?_eq_getElem _⟩
   obtain ⟨g, og, hg, hr⟩ := aD ClmE.len (uv.out.drew.own 2 rfl).rd hy rfl
   cases hg
   have y0 : wr.drew.cell? ⟨g, og + j * 16, none⟩ = some (.int .i64 y.kind) := hr 0 _ rfl
   have y1 : wr.drew.cell? ⟨g, og + j * 16 + 1, none⟩ = some (.int .i64 y.table) := hr 1 _ rfl
   have xt := Bj.out _ uv.out.drew
   have HY := BO hy
   have ux := BO uv.out.drew
   clear hr hy uv
   go_upto_region 14 with fail
   by_cases hk : y.kind = 2
   ·by_cases htb : y.table = x.table
    ·have HT := BO (aO (q := ej x.table) HY.out (by unfold ej; simp [hk, htb]))
     rw [hk] at y0
     rw [htb] at y1
     clear hk htb
     generalize hfl2 : ((s1.take j).filter (ej x.table)).length = fl at *
     refine af [(0, false, 999), (1, false, 999), (2, false, 999), (3, false, 999), (4, false, 999), (5, false, 999), (6, false, 999), (7, false, 999), (8, false, 999), (9, false, 999), (10, false, 999), (11, false, 999), (12, false, 999), (13, false, 999), (14, false, 999), (15, false, 999)] (by kernel_rfl) (by kernel_rfl) ?_
     iterate 7 (refine ae rfl rfl (fun K hK => ?_); go_simp; refine hK _ ?_; clear hK K)
     iterate 8 (first | (refine am rfl rfl ?_; simp only [Act.put, BP, BQ, BR, BS, BT, BU]) | (refine ak rfl rfl (fun K hK => ?_); go_simp; refine hK _ ?_; clear hK K))
     refine ae rfl rfl (fun K hK => ?_); go_simp; refine hK _ ?_; clear hK K
     refine ap ?_
     go_wp2_with fail
     go_roundw
     case rel => exact ⟨j + 1, by rw [HT.out, List.length_append, hfl2]; go_num, by go_num, by omega, ux.out⟩
     case measure => simp [intOf]; omega
    ·have htb' : (y.table == x.table) = false := by simpa using htb
     have HT := BO (aQ (q := ej x.table) HY.out (by unfold ej; simp [htb]))
     rw [hk] at y0
     clear hk htb
     refine af [(0, false, 999), (1, false, 999), (2, false, 999), (3, false, 999), (4, false, 999), (5, false, 999), (6, false, 999), (7, false, 999), (8, false, 999), (9, false, 999), (10, false, 999), (11, false, 999), (12, false, 999), (13, false, 999), (14, false, 999), (15, false, 999)] (by kernel_rfl) (by kernel_rfl) ?_
     iterate 7 (refine ae rfl rfl (fun K hK => ?_); go_simp; refine hK _ ?_; clear hK K)
     iterate 8 (first | (refine am rfl rfl ?_; simp only [Act.put, BP, BQ, BR, BS, BT, BU]) | (refine ak rfl rfl (fun K hK => ?_); go_simp; refine hK _ ?_; clear hK K))
     refine ae rfl rfl (fun K hK => ?_); go_simp; refine hK _ ?_; clear hK K
     refine ap ?_
     go_wp2_with fail
     go_roundw
     case rel => exact ⟨j + 1, by rw [HT.out], by go_num, by omega, ux.out⟩
     case measure => simp [intOf]; omega
   ·have hk' : (y.kind == 2) = false := by simpa using hk
    have HT := BO (aQ (q := ej x.table) HY.out (by unfold ej; simp [hk]))
    clear hk
    refine af [(0, false, 999), (1, false, 999), (2, false, 999), (3, false, 999), (4, false, 999), (5, false, 999), (6, false, 999), (7, false, 999), (8, false, 999), (9, false, 999), (10, false, 999), (11, false, 999), (12, false, 999), (13, false, 999), (14, false, 999), (15, false, 999)] (by kernel_rfl) (by kernel_rfl) ?_
    iterate 7 (refine ae rfl rfl (fun K hK => ?_); go_simp; refine hK _ ?_; clear hK K)
    iterate 8 (first | (refine am rfl rfl ?_; simp only [Act.put, BP, BQ, BR, BS, BT, BU]) | (refine ak rfl rfl (fun K hK => ?_); go_simp; refine hK _ ?_; clear hK K))
    refine ae rfl rfl (fun K hK => ?_); go_simp; refine hK _ ?_; clear hK K
    refine ap ?_
    go_wp2_with fail
    go_roundw
    case rel => exact ⟨j + 1, by rw [HT.out], by go_num, by omega, ux.out⟩
    case measure => simp [intOf]; omega
  have hji : ¬ ((j : Int) < (s1.length : Int)) := by omega
  have hall : ((s1.take j).filter (ej x.table)).length = (aR m.q on x.table).length := by rw [List.take_of_length_le (by omega)]; exact yj.out
  rw [hall] at hfl ⊢
  clear hall Bj
  obtain ⟨kn, hkn⟩ : ∃ kn, (aR m.q on x.table).length = kn := ⟨_, rfl⟩
  have BK := BO hkn
  rw [hkn] at hfl ⊢
  have hkm : kn ≤ 40 := by
   rw [← hkn]
   unfold aR
   refine Nat.le_trans (List.length_filter_le _ _) ?_
   unfold aE
   rw [List.length_map]
   exact Nat.le_trans (List.length_filter_le _ _) (by have := HF.out.len; omega)
  have hs1l : s1.length ≤ 40 := by
   have h1 := congrArg List.length xW.out
   rw [List.length_map] at h1
   rw [h1]
   unfold aE
   rw [List.length_map]
   exact Nat.le_trans (List.length_filter_le _ _) (by have := HF.out.len; omega)
  clear hkn hfl
  obtain ⟨x0, x1, x2, x3, x4, x5⟩ := dd (uv.out.blk 3 rfl)
  have yK := BO (Esc_L (on : Int) x.table x.many (HE.out.mono ((tt.out.trans Bg.out).trans AI.out)) (HF.out.sm (by decide)) (by have := HF.out.len; omega) (by have := HF.out.w; omega) uv.out)
  have AK := BO (rM HF.out (o := (on : Int)) ⟨by omega, by omega⟩ x.table x.many)
  have toq := BO (sh HF.out.sound.toKeep (o := (on : Int)) (table := x.table) (many := x.many) BJ.out)
  have xX := BO (qZ HF.out.sound.toKeep (o := (on : Int)) (table := x.table) (many := x.many))
  have yL := BO (qI (m := m) (o := (on : Int)) (table := x.table) (many := x.many))
  rw [BK.out] at xX
  obtain ⟨P, hP⟩ : ∃ P, dG m (on : Int) x.table x.many = P := ⟨_, rfl⟩
  rw [hP] at yK AK toq xX yL
  obtain ⟨m5, is⟩ := P
  have z7 := BO (show LkFine 41 m5 from AK.out)
  have AL := BO (show Covd m.q.held m5.q.held pn from toq.out)
  have zM := BO (show is = true → (∀ z ∈ aE m5.q on, bm x.table z = false) ∧ (∃ z ∈ aE m5.q on, z.kind = 1 ∧ z.table = x.table ∧ (z.mode = 3 ∨ z.mode = 4 ∨ z.mode = 5 ∨ z.mode = 6)) ∧ x.many < (kn : Int) ∧ (aE m5.q on).length + kn ≤ (aE m.q on).length + 1 from xX.out)
  have zN := BO (show is = false → m5 = m from yL.out)
  clear hP AK toq xX yL
  go_upto_region 17 with (go_at_call 19; refine yK.out.mono ?_; rintro e6 w6 ⟨D3, rfl, hle6, hs6⟩; have tw := BO hle6; have sX := BO (show Sat W D3 w6 (b7 D3 L ts rm m5 :: _) from hs6); clear hle6 hs6 yK uv x0 x1 x2 x3 x4 x5)
  clear hji
  have ue := BO (iy (on : Int) (by have := z7.out.len; omega) (z7.out.sm (by decide)) sX.out)
  go_upto_region 18 with (first | (go_at_call 17; refine ue.out.mono ?_; rintro ec wc ⟨vc, Dc, rfl, hlec, hsc⟩; have AM := BO hlec; have Bk := BO (cu hsc.swap hlec).swap; clear hlec hsc ue sX))
  obtain ⟨s3, hcm3, hco3, hs3⟩ := d4 Bk.out
  obtain ⟨a3, c3, rfl⟩ := hs3.own_shape
  have hcl3 := (hs3.own 0 rfl).rd.2.1
  unfold maxLen at hcl3
  have xY := BO hcm3
  have AN := BO hco3
  have sU := BO hs3.swap
  clear hcm3 hco3 hs3 Bk
  have hpn := Bf.out
  have hwr : IntKind.i64.wrap ((on : Int) + 1) = (on : Int) + 1 := IntWalk.i64_in _ (by omega)
  have ue := BO (iy (pn : Int) (by have := z7.out.len; omega) (z7.out.sm (by decide)) sU.out)
  go_upto_region 19 with (first | (go_at_call 17; refine ue.out.mono ?_; rintro ed wd ⟨vd, D5, rfl, hled, hsd⟩; have z8 := BO hled; have Bl := BO (cu hsd.swap hled).swap; clear hled hsd ue sU))
  obtain ⟨s4, hcm4, hco4, hs4⟩ := d4 Bl.out
  obtain ⟨a4, c4, rfl⟩ := hs4.own_shape
  have hcl4 := (hs4.own 0 rfl).rd.2.1
  unfold maxLen at hcl4
  have AO := BO hcm4
  have AP := BO hco4
  have sY := BO hs4.swap
  clear hcm4 hco4 hs4 Bl
  clear hpn hwr
  have tp := BO (show ∀ y ∈ s2, s4.any (fun z => RC.cov z.c y.c) = true from fun y hy => pI AL.out wR.out AO.out hy)
  have HCO2' := BO (show ∀ y ∈ s2, ClOk D5 y from fun y hy => (((AJ.out y hy).mono tw.out).mono AM.out).mono z8.out)
  have xJ := BO (((tt.out.trans Bg.out).trans AI.out).trans ((tw.out.trans AM.out).trans z8.out))
  go_wp2_with fail
  go_loopw [17] (fun ii wr => ∃ j : Nat, ii = .int .i64 j ∧ j ≤ s2.length ∧ Sat W D5 wr [b7 D5 L ts rm m5, dI (.slice a4 s4.length c4) s4, dI (.slice a3 s3.length c3) s3, dI (.slice a2 s2.length c2) s2, dI (.slice a1 s1.length c1) s1, blk ba x.cells.toArray kN]) (fun ii _ => s2.length - (intOf ii).toNat)
  case atStart => exact ⟨0, rfl, by omega, sY.out⟩
  case round =>
   obtain ⟨j2, rfl, hj2, hs⟩ := hrel
   have uv := BO hs
   clear hs sY
   by_cases hlt2 : j2 < s2.length
   ·have hji : (j2 : Int) < (s2.length : Int) := by omega
    obtain ⟨y, hy⟩ : ∃ y, s2[j2]? = some y := ⟨s2[j2]'hlt2, List.getElem?_eq_getElem _⟩
    have BL := BO (tp.out y (List.mem_of_getElem? hy))
    have HY := BO hy
    clear hy
    go_wp2_with fail
    go_loopw [18, 19] (fun cv ii wr => ∃ k : Nat, cv = .bool ((s4.take k).any (fun z => RC.cov z.c y.c)) ∧ ii = .int .i64 k ∧ k ≤ s4.length ∧ Sat W D5 wr [b7 D5 L ts rm m5, dI (.slice a4 s4.length c4) s4, dI (.slice a3 s3.length c3) s3, dI (.slice a2 s2.length c2) s2, dI (.slice a1 s1.length c1) s1, blk ba x.cells.toArray kN]) (fun _ ii _ => s4.length - (intOf ii).toNat)
    case atStart => exact ⟨0, rfl, rfl, by omega, uv.out⟩
    case round =>
     obtain ⟨k, rfl, rfl, hk4, hs⟩ := hrel
     have ux := BO hs
     clear hs uv
     by_cases hlt4 : k < s4.length
     ·have hki : (k : Int) < (s4.length : Int) := by omega
      obtain ⟨z, hz⟩ : ∃ z, s4[k]? = some z := ⟨s4[k]'hlt4, List.getElem?_eq_getElem _⟩
      obtain ⟨g4, og4, hg4, hr4⟩ := aD ClmE.len (ux.out.own 1 rfl).rd hz rfl
      obtain ⟨g2, og2, hg2, hr2⟩ := aD ClmE.len (ux.out.own 3 rfl).rd HY.out rfl
      cases hg4
      cases hg2
      have tG := BO (ay (w := wr.drew) hr4)
      have tC := BO (ay (w := wr.drew) hr2)
      have yM := BO (pB (w := wr.drew) ((AP.out z (List.mem_of_getElem? hz)).rd ux.out.drew) ((HCO2'.out y (List.mem_of_getElem? HY.out)).rd ux.out.drew))
      have uE := BO (dm (fun z : ClmE => RC.cov z.c y.c) hz)
      obtain ⟨ab, hab⟩ : ∃ ab, (s4.take k).any (fun z => RC.cov z.c y.c) = ab := ⟨_, rfl⟩
      rw [hab] at uE ⊢
      clear hab hr4 hr2 hz
      go_upto_region 26 with fail
      cases ab
      ·refine af [(0, false, 10), (1, false, 10), (2, false, 10), (3, false, 10), (4, false, 10), (5, false, 10), (6, false, 10), (7, false, 10), (8, false, 10), (9, false, 10), (10, true, 0), (11, false, 999), (12, false, 999)] (by kernel_rfl) (by kernel_rfl) ?_
       iterate 2 (refine ae rfl rfl (fun K hK => ?_); (first | ((refine aj _ _ rfl _ _ rfl _ tG.out ?_); go_simp) | ((refine aj _ _ rfl _ _ rfl _ tC.out ?_); go_simp) | go_simp); refine hK _ ?_; clear hK K)
       iterate 8 (first | (refine am rfl rfl ?_; simp only [Act.put, BP, BQ, BR, BS, BT, BU]) | (refine ak rfl rfl (fun K hK => ?_); (first | ((refine aj _ _ rfl _ _ rfl _ tG.out ?_); go_simp) | ((refine aj _ _ rfl _ _ rfl _ tC.out ?_); go_simp) | go_simp); refine hK _ ?_; clear hK K))
       refine al rfl ?_
       refine aw rfl (fun K hK => ?_)
       go_simp
       refine yM.out.mono ?_
       rintro eb wb ⟨rfl, hkb⟩
       have wt := BO (ux.out.drew.kept hkb)
       clear hkb yM tG tC ux
       refine hK _ _ ?_
       clear hK K
       refine wpList_nil ?_
       refine And.intro ?_ ?_
       ·go_simp
       iterate 2 (refine ae rfl rfl (fun K hK => ?_); (first | ((refine aj _ _ rfl _ _ rfl _ tG.out ?_); go_simp) | ((refine aj _ _ rfl _ _ rfl _ tC.out ?_); go_simp) | go_simp); refine hK _ ?_; clear hK K)
       refine ap ?_
       go_wp2_with fail
       go_roundw
       case rel => exact ⟨k + 1, by rw [uE.out]; rfl, by go_num, by omega, wt.out⟩
       case measure => simp [intOf]; omega
      ·have wt := BO ux.out.drew
       refine af [(0, false, 10), (1, false, 10), (2, false, 10), (3, false, 10), (4, false, 10), (5, false, 10), (6, false, 10), (7, false, 10), (8, false, 10), (9, false, 10), (10, true, 0), (11, false, 999), (12, false, 999)] (by kernel_rfl) (by kernel_rfl) ?_
       iterate 2 (refine ae rfl rfl (fun K hK => ?_); (first | ((refine aj _ _ rfl _ _ rfl _ tG.out ?_); go_simp) | ((refine aj _ _ rfl _ _ rfl _ tC.out ?_); go_simp) | go_simp); refine hK _ ?_; clear hK K)
       iterate 8 (first | (refine am rfl rfl ?_; simp only [Act.put, BP, BQ, BR, BS, BT, BU]) | (refine ak rfl rfl (fun K hK => ?_); (first | ((refine aj _ _ rfl _ _ rfl _ tG.out ?_); go_simp) | ((refine aj _ _ rfl _ _ rfl _ tC.out ?_); go_simp) | go_simp); refine hK _ ?_; clear hK K))
       refine al rfl ?_
       refine bI rfl ?_
       simp only [Act.put, BP, BQ, BR]
       refine wpList_nil ?_
       refine And.intro ?_ ?_
       ·go_simp
       iterate 2 (refine ae rfl rfl (fun K hK => ?_); (first | ((refine aj _ _ rfl _ _ rfl _ tG.out ?_); go_simp) | ((refine aj _ _ rfl _ _ rfl _ tC.out ?_); go_simp) | go_simp); refine hK _ ?_; clear hK K)
       refine ap ?_
       clear yM tG tC ux
       go_wp2_with fail
       go_roundw
       case rel => exact ⟨k + 1, by rw [uE.out]; rfl, by go_num, by omega, wt.out⟩
       case measure => simp [intOf]; omega
     ·have hki : ¬ ((k : Int) < (s4.length : Int)) := by omega
      have hall : (s4.take k).any (fun z => RC.cov z.c y.c) = true := by rw [List.take_of_length_le (by omega)]; exact BL.out
      rw [hall]
      clear hall
      go_wp2_with fail
      go_roundw
      case rel => exact ⟨j2 + 1, by go_num, by omega, ux.out⟩
      case measure => simp [intOf]; omega
   ·have hji : ¬ ((j2 : Int) < (s2.length : Int)) := by omega
    go_upto_region 29 with fail
    clear hji
    cases is
    ·have hmm := zN.out rfl
     have t8 := BO (qK (w := wr) (v1 := .slice a3 s3.length c3) (v2 := .slice a1 s1.length c1) ⟨(uv.out.own 2 rfl).rd, fun y hy => ((AN.out y hy).mono z8.out).rd uv.out⟩ ⟨(uv.out.own 4 rfl).rd, fun y hy => (((((AH.out y hy).mono AI.out).mono tw.out).mono AM.out).mono z8.out).rd uv.out⟩ (by rw [xY.out, xW.out, hmm]))
     clear hmm
     go_wp2_with (go_at_call 21; refine t8.out.mono ?_; rintro e9 w9 ⟨rfl, hk9⟩; have ti := BO (uv.out.kept hk9); clear hk9 t8 uv)
     go_ret
     exact ⟨rfl, yJ.out D5 _ xJ.out ti.out.drop.drop.drop.drop.drop.drop⟩
    obtain ⟨t1, t2, t3, t4⟩ := zM.out rfl
    have wV := BO (show ∀ z ∈ s3, ej x.table z = false from fun z hz => t1 z.c (by rw [← xY.out]; exact List.mem_map.2 ⟨z, hz, rfl⟩))
    have BM := BO (show s3.any (cR x.table) = true by
     obtain ⟨h, hh, h1, h2, h3⟩ := t2
     rw [← xY.out] at hh
     obtain ⟨z, hz, rfl⟩ := List.mem_map.1 hh
     have h1 : z.kind = 1 := h1
     have h2 : z.table = x.table := h2
     have h3 : z.mode = 3 ∨ z.mode = 4 ∨ z.mode = 5 ∨ z.mode = 6 := h3
     exact List.any_eq_true.2 ⟨z, hz, by unfold cR; rcases h3 with h | h | h | h <;> simp [h1, h2, h]⟩)
    have hl3 : s3.length + kn ≤ s1.length + 1 := by
     have h1 := congrArg List.length xW.out
     have h3 := congrArg List.length xY.out
     rw [List.length_map] at h1 h3
     omega
    have zO := BO t3
    clear t1 t2 t3 t4 zM zN
    go_wp2_with fail
    go_loopw [20, 21] (fun cv ii wr => ∃ k : Nat, cv = .bool ((s3.take k).any (cR x.table)) ∧ ii = .int .i64 k ∧ k ≤ s3.length ∧ Sat W D5 wr [b7 D5 L ts rm m5, dI (.slice a4 s4.length c4) s4, dI (.slice a3 s3.length c3) s3, dI (.slice a2 s2.length c2) s2, dI (.slice a1 s1.length c1) s1, blk ba x.cells.toArray kN]) (fun _ ii _ => s3.length - (intOf ii).toNat)
    case atStart => exact ⟨0, rfl, rfl, by omega, uv.out⟩
    case round =>
     obtain ⟨k, rfl, rfl, hk3, hs⟩ := hrel
     have ux := BO hs
     clear hs uv
     by_cases hlt3 : k < s3.length
     ·have hki : (k : Int) < (s3.length : Int) := by omega
      obtain ⟨z, hz⟩ : ∃ z, s3[k]? = some z := ⟨s3[k]'hlt3, List.getElem?_eq_getElem _⟩
      have hnr := wV.out z (List.mem_of_getElem? hz)
      unfold ej at hnr
      have hor : ((z.kind == 2) = false) ∨ (z.kind = 2 ∧ (z.table == x.table) = false) := by
       by_cases h2 : z.kind = 2
       ·right; refine ⟨h2, ?_⟩; simpa [h2] using hnr
       ·left; simpa using h2
      have uE := BO (dm (cR x.table) hz)
      have wt := BO ux.out.drew
      have uL := BO ux.out.drew.drew
      have yp := BO (show ∀ w : World, Sat W D5 w [b7 D5 L ts rm m5, dI (.slice a4 s4.length c4) s4, dI (.slice a3 s3.length c3) s3, dI (.slice a2 s2.length c2) s2, dI (.slice a1 s1.length c1) s1, blk ba x.cells.toArray kN] → ∃ g og, a3 = some ⟨g, og, none⟩ ∧ w.cell? ⟨g, og + k * 16, none⟩ = some (.int .i64 z.kind) ∧ w.cell? ⟨g, og + k * 16 + 1, none⟩ = some (.int .i64 z.table) ∧ w.cell? ⟨g, og + k * 16 + 2, none⟩ = some (.int .i64 z.mode) ∧ w.cell? ⟨ba, 20, none⟩ = some (.int .i64 x.table) from fun w h => by
       obtain ⟨g, og, hg, hr⟩ := aD ClmE.len (h.own 2 rfl).rd hz rfl
       exact ⟨g, og, hg, hr 0 _ rfl, hr 1 _ rfl, hr 2 _ rfl, (dd (h.blk 5 rfl)).2.2.2.2.1⟩)
      obtain ⟨g, og, hg, z0, z1, z2, xt⟩ := yp.out _ wt.out
      subst hg
      obtain ⟨ab, hab⟩ : ∃ ab, (s3.take k).any (cR x.table) = ab := ⟨_, rfl⟩
      rw [hab] at uE ⊢
      clear hab hnr hz
      go_upto_region 35 with fail
      clear ux
      go_cut [133] (fun sv wx => sv = .bool false ∧ wx = wr.drew)
      case first =>
       rcases hor with hor | ⟨hz2, hor⟩
       ·refine af [(0, false, 999), (1, false, 999), (2, false, 999), (3, false, 999), (4, false, 999), (5, false, 999), (6, false, 999), (7, false, 999), (8, false, 999), (9, false, 999), (10, false, 999), (11, false, 999), (12, false, 999), (13, false, 999), (14, false, 999), (15, false, 999)] (by kernel_rfl) (by kernel_rfl) ?_
        iterate 7 (refine ae rfl rfl (fun K hK => ?_); go_simp; refine hK _ ?_; clear hK K)
        iterate 8 (first | (refine am rfl rfl ?_; simp only [Act.put, BP, BQ, BR, BS, BT, BU]) | (refine ak rfl rfl (fun K hK => ?_); go_simp; refine hK _ ?_; clear hK K))
        refine ae rfl rfl (fun K hK => ?_); go_simp; refine hK _ ?_; clear hK K
        refine ap ?_
        go_wp2_with fail
        go_meet
        exact ⟨rfl, rfl⟩
       ·rw [hz2] at z0
        refine af [(0, false, 999), (1, false, 999), (2, false, 999), (3, false, 999), (4, false, 999), (5, false, 999), (6, false, 999), (7, false, 999), (8, false, 999), (9, false, 999), (10, false, 999), (11, false, 999), (12, false, 999), (13, false, 999), (14, false, 999), (15, false, 999)] (by kernel_rfl) (by kernel_rfl) ?_
        iterate 7 (refine ae rfl rfl (fun K hK => ?_); go_simp; refine hK _ ?_; clear hK K)
        iterate 8 (first | (refine am rfl rfl ?_; simp only [Act.put, BP, BQ, BR, BS, BT, BU]) | (refine ak rfl rfl (fun K hK => ?_); go_simp; refine hK _ ?_; clear hK K))
        refine ae rfl rfl (fun K hK => ?_); go_simp; refine hK _ ?_; clear hK K
        refine ap ?_
        go_wp2_with fail
        go_meet
        exact ⟨rfl, rfl⟩
      case rest =>
       obtain ⟨rfl, rfl⟩ := hcut
       clear z0 z1 z2 xt hor
       obtain ⟨g', og', hg', z0, z1, z2, xt⟩ := yp.out _ uL.out
       cases hg'
       go_upto_region 37 with fail
       refine af [(0, false, 999), (1, false, 999), (2, false, 999), (3, false, 999), (4, false, 999), (5, false, 999), (6, false, 999), (7, false, 999), (8, false, 999), (9, false, 999), (10, false, 999), (11, false, 999), (12, false, 999), (13, false, 999), (14, false, 999), (15, false, 999), (16, false, 999), (17, false, 999), (18, false, 999), (19, false, 999), (20, false, 999), (21, false, 999), (22, false, 999), (23, false, 999), (24, false, 999), (25, false, 999), (26, false, 999), (27, false, 999), (28, false, 999), (29, false, 999), (30, false, 999), (31, false, 999), (32, false, 999), (33, false, 999), (34, false, 999), (35, false, 999), (36, false, 999), (37, false, 999), (38, false, 999), (39, false, 999), (40, false, 999), (41, false, 999), (42, false, 999), (43, false, 999), (44, false, 999), (45, false, 999), (46, false, 999), (47, false, 999), (48, false, 999), (49, false, 999), (50, false, 999), (51, false, 999)] (by kernel_rfl) (by kernel_rfl) ?_
       iterate 2 (refine ae rfl rfl (fun K hK => ?_); go_simp; refine hK _ ?_; clear hK K)
       cases ab
       rotate_left
       ·as_aux_lemma =>
         iterate 48 (first | (refine am rfl rfl ?_; simp only [Act.put, BP, BQ, BR, BS, BT, BU]) | (refine ak rfl rfl (fun K hK => ?_); go_simp; refine hK _ ?_; clear hK K))
         iterate 2 (refine ae rfl rfl (fun K hK => ?_); go_simp; refine hK _ ?_; clear hK K)
         refine ap ?_
         go_wp2_with fail
         go_roundw
         case rel => exact ⟨k + 1, by rw [uE.out]; rfl, by go_num, by omega, uL.out⟩
         case measure => simp [intOf]; omega
       iterate 5 (first | (refine am rfl rfl ?_; simp only [Act.put, BP, BQ, BR, BS, BT, BU]) | (refine ak rfl rfl (fun K hK => ?_); go_simp; refine hK _ ?_; clear hK K))
       by_cases k1 : z.kind = 1
       rotate_left
       ·have k1' : (z.kind == 1) = false := by simpa using k1
        have HV := BO (show cR x.table z = false by unfold cR; simp [k1])
        clear k1
        as_aux_lemma =>
         iterate 43 (first | (refine am rfl rfl ?_; simp only [Act.put, BP, BQ, BR, BS, BT, BU]) | (refine ak rfl rfl (fun K hK => ?_); go_simp; refine hK _ ?_; clear hK K))
         iterate 2 (refine ae rfl rfl (fun K hK => ?_); go_simp; refine hK _ ?_; clear hK K)
         refine ap ?_
         go_wp2_with fail
         go_roundw
         case rel => exact ⟨k + 1, by rw [uE.out]; rw [HV.out]; rfl, by go_num, by omega, uL.out⟩
         case measure => simp [intOf]; omega
       have k1' : (z.kind == 1) = true := by simpa using k1
       iterate 9 (first | (refine am rfl rfl ?_; simp only [Act.put, BP, BQ, BR, BS, BT, BU]) | (refine ak rfl rfl (fun K hK => ?_); go_simp; refine hK _ ?_; clear hK K))
       by_cases k2 : z.table = x.table
       rotate_left
       ·have k2' : (z.table == x.table) = false := by simpa using k2
        have HV := BO (show cR x.table z = false by unfold cR; simp [k2])
        clear k1 k2
        as_aux_lemma =>
         iterate 34 (first | (refine am rfl rfl ?_; simp only [Act.put, BP, BQ, BR, BS, BT, BU]) | (refine ak rfl rfl (fun K hK => ?_); go_simp; refine hK _ ?_; clear hK K))
         iterate 2 (refine ae rfl rfl (fun K hK => ?_); go_simp; refine hK _ ?_; clear hK K)
         refine ap ?_
         go_wp2_with fail
         go_roundw
         case rel => exact ⟨k + 1, by rw [uE.out]; rw [HV.out]; rfl, by go_num, by omega, uL.out⟩
         case measure => simp [intOf]; omega
       have k2' : (z.table == x.table) = true := by simpa using k2
       iterate 8 (first | (refine am rfl rfl ?_; simp only [Act.put, BP, BQ, BR, BS, BT, BU]) | (refine ak rfl rfl (fun K hK => ?_); go_simp; refine hK _ ?_; clear hK K))
       by_cases k3 : z.mode = 3
       ·have HV := BO (show cR x.table z = true by unfold cR; simp [k1, k2, k3])
        have kt : (z.mode == 3) = true := by simpa using k3
        clear k1 k2 k3
        as_aux_lemma =>
         iterate 26 (first | (refine am rfl rfl ?_; simp only [Act.put, BP, BQ, BR, BS, BT, BU]) | (refine ak rfl rfl (fun K hK => ?_); go_simp; refine hK _ ?_; clear hK K))
         iterate 2 (refine ae rfl rfl (fun K hK => ?_); go_simp; refine hK _ ?_; clear hK K)
         refine ap ?_
         go_wp2_with fail
         go_roundw
         case rel => exact ⟨k + 1, by rw [uE.out]; rw [HV.out]; rfl, by go_num, by omega, uL.out⟩
         case measure => simp [intOf]; omega
       have k3' : (z.mode == 3) = false := by simpa using k3
       iterate 7 (first | (refine am rfl rfl ?_; simp only [Act.put, BP, BQ, BR, BS, BT, BU]) | (refine ak rfl rfl (fun K hK => ?_); go_simp; refine hK _ ?_; clear hK K))
       by_cases k4 : z.mode = 4
       ·have HV := BO (show cR x.table z = true by unfold cR; simp [k1, k2, k4])
        have kt : (z.mode == 4) = true := by simpa using k4
        clear k1 k2 k3 k4
        as_aux_lemma =>
         iterate 19 (first | (refine am rfl rfl ?_; simp only [Act.put, BP, BQ, BR, BS, BT, BU]) | (refine ak rfl rfl (fun K hK => ?_); go_simp; refine hK _ ?_; clear hK K))
         iterate 2 (refine ae rfl rfl (fun K hK => ?_); go_simp; refine hK _ ?_; clear hK K)
         refine ap ?_
         go_wp2_with fail
         go_roundw
         case rel => exact ⟨k + 1, by rw [uE.out]; rw [HV.out]; rfl, by go_num, by omega, uL.out⟩
         case measure => simp [intOf]; omega
       have k4' : (z.mode == 4) = false := by simpa using k4
       iterate 8 (first | (refine am rfl rfl ?_; simp only [Act.put, BP, BQ, BR, BS, BT, BU]) | (refine ak rfl rfl (fun K hK => ?_); go_simp; refine hK _ ?_; clear hK K))
       by_cases k5 : z.mode = 5
       ·have HV := BO (show cR x.table z = true by unfold cR; simp [k1, k2, k5])
        have kt : (z.mode == 5) = true := by simpa using k5
        clear k1 k2 k3 k4 k5
        as_aux_lemma =>
         iterate 11 (first | (refine am rfl rfl ?_; simp only [Act.put, BP, BQ, BR, BS, BT, BU]) | (refine ak rfl rfl (fun K hK => ?_); go_simp; refine hK _ ?_; clear hK K))
         iterate 2 (refine ae rfl rfl (fun K hK => ?_); go_simp; refine hK _ ?_; clear hK K)
         refine ap ?_
         go_wp2_with fail
         go_roundw
         case rel => exact ⟨k + 1, by rw [uE.out]; rw [HV.out]; rfl, by go_num, by omega, uL.out⟩
         case measure => simp [intOf]; omega
       have k5' : (z.mode == 5) = false := by simpa using k5
       iterate 8 (first | (refine am rfl rfl ?_; simp only [Act.put, BP, BQ, BR, BS, BT, BU]) | (refine ak rfl rfl (fun K hK => ?_); go_simp; refine hK _ ?_; clear hK K))
       by_cases k6 : z.mode = 6
       ·have HV := BO (show cR x.table z = true by unfold cR; simp [k1, k2, k6])
        have kt : (z.mode == 6) = true := by simpa using k6
        clear k1 k2 k3 k4 k5 k6
        as_aux_lemma =>
         iterate 3 (first | (refine am rfl rfl ?_; simp only [Act.put, BP, BQ, BR, BS, BT, BU]) | (refine ak rfl rfl (fun K hK => ?_); go_simp; refine hK _ ?_; clear hK K))
         iterate 2 (refine ae rfl rfl (fun K hK => ?_); go_simp; refine hK _ ?_; clear hK K)
         refine ap ?_
         go_wp2_with fail
         go_roundw
         case rel => exact ⟨k + 1, by rw [uE.out]; rw [HV.out]; rfl, by go_num, by omega, uL.out⟩
         case measure => simp [intOf]; omega
       have k6' : (z.mode == 6) = false := by simpa using k6
       first | (refine am rfl rfl ?_; simp only [Act.put, BP, BQ, BR, BS, BT, BU]) | (refine ak rfl rfl (fun K hK => ?_); go_simp; refine hK _ ?_; clear hK K)
       have HV := BO (show cR x.table z = false by unfold cR; simp [k3, k4, k5, k6])
       clear k1 k2 k3 k4 k5 k6
       as_aux_lemma =>
        iterate 2 (first | (refine am rfl rfl ?_; simp only [Act.put, BP, BQ, BR, BS, BT, BU]) | (refine ak rfl rfl (fun K hK => ?_); go_simp; refine hK _ ?_; clear hK K))
        iterate 2 (refine ae rfl rfl (fun K hK => ?_); go_simp; refine hK _ ?_; clear hK K)
        refine ap ?_
        go_wp2_with fail
        go_roundw
        case rel => exact ⟨k + 1, by rw [uE.out]; rw [HV.out]; rfl, by go_num, by omega, uL.out⟩
        case measure => simp [intOf]; omega
     ·have hki : ¬ ((k : Int) < (s3.length : Int)) := by omega
      have hall : (s3.take k).any (cR x.table) = true := by rw [List.take_of_length_le (by omega)]; exact BM.out
      rw [hall]
      clear hall
      obtain ⟨x0, x1, x2, x3, x4, x5⟩ := dd (ux.out.blk 5 rfl)
      have hmany : (kn : Int) > x.many := zO.out
      have hle1 : (s3.length : Int) ≤ (s1.length : Int) - (kn : Int) + 1 := by omega
      have hw1 : IntKind.i64.wrap ((s1.length : Int) - (kn : Int)) = (s1.length : Int) - (kn : Int) := IntWalk.i64_in _ (by omega)
      have hw2 : IntKind.i64.wrap ((s1.length : Int) - (kn : Int) + 1) = (s1.length : Int) - (kn : Int) + 1 := IntWalk.i64_in _ (by omega)
      go_wp2_with fail
      go_ret
      exact ⟨rfl, yJ.out D5 _ xJ.out ux.out.drop.drop.drop.drop.drop.drop⟩
end Go.Proofs.YtgljdkjepdknnaaGreatDoor
