/- Joined texts: An act over locks and over the document's, Escalate too (ratlinelaw11.done). Locks behind a script of acts (ratlinelaw11.behind). What the laws LocksApart, LocksStays and LocksTables say, of the data. -/
import Derived.Test.YtgljdkjepdknnaaGreatDoorML42
import Derived.Test.YtgljdkjepdknnaaGreatDoorML45
import Derived.Test.YtgljdkjepdknnaaGreatDoorML43
import Derived.Test.YtgljdkjepdknnaaGreatDoorML26
set_option maxHeartbeats 64000000
namespace Go.Proofs.YtgljdkjepdknnaaGreatDoor
open Go.ChangeShapes Go.WideShapes Go.ChangeAt Go.RowKit
set_option maxRecDepth 100000
set_option linter.unusedSimpArgs false
theorem rx (table : Int) (rows : List Clm) : fK (dB table rows) = true := by
  unfold fK dB
  dsimp only
  rw [PredT.flat_eq]
  simp
theorem ut {n : Nat} {ts : List (List Bool)} {room : Int} {m : LkM} {d : DocM} (h : LkOk n m d) (k : Int) {o : Int} (ho : 0 ≤ o ∧ o ≤ 7) {c : Clm} (hc : bV c) (hf : fK c = true) (dur hand table many : Int) :
    LkOk (n + 1) (gN ts room m d k o c dur hand table many).1 (gN ts room m d k o c dur hand table many).2.1 := by
  unfold gN
  split
  · have h1 : ScOk (n + 1) (gP m o table many).1.q ∧ (gP m o table many).1.why.length ≤ n + 1 := by
      unfold gP
      split
      · exact ⟨h.q.mono (Nat.le_succ n), Nat.le_trans h.w (Nat.le_succ n)⟩
      · exact ⟨fH (lG h.q ho (nz table (fA _)) (rx _ _) false) _, Nat.le_trans (fD _ _ _) (Nat.le_trans (jI _ _ _ _) (by have := h.w; omega))⟩
    have h2 : ScOk (n + 1) (hO d o table many).1.q ∧ (hO d o table many).1.r.length ≤ n + 1 := by
      unfold hO
      split
      · exact ⟨h.dq.mono (Nat.le_succ n), Nat.le_trans h.dr (Nat.le_succ n)⟩
      · refine ⟨fH (lG h.dq ho (nz table (fA _)) (rx _ _) false) _, ?_⟩
        show (_ ++ [_]).length ≤ n + 1
        rw [List.length_append]
        have := fm o (bB d.q o table) d.r
        have := h.dr
        simp only [List.length_singleton]
        omega
    exact ⟨h1.1, h1.2, h2.1, h2.2⟩
  · exact tF h k ho hc hf dur hand
noncomputable def lz (ts : List (List Bool)) (room : Int) (m : LkM) (d : DocM) (a : ActE) : LkM × DocM × Bool := gN ts room m d (bits .and .i64 a.kind 15) (bits .and .i64 a.owner 7) a.x.c a.dur a.hand a.table a.many
theorem pD {B w : World} {D : PH} {l : List HP} {L n : Nat} {ts : List (List Bool)} {room : Int} {v : Value} {m : LkM} {d : DocM} (a : ActE) (hE : EnvD D) (hd : DocD D v d) (hok : LkOk n m d) (hn : n ≤ 900) (ha : ClOk D a.x) (hf : bV a.x.c) (hfew : fK a.x.c = true) (s : Sat B D w (cd D L ts room m :: l)) :
    Calls Tryz.prog 24 #[.pointer (some ⟨L, 0, none⟩), v, .agg a.cells.toArray] w (DoneL B D l L ts room (lz ts room m d a)) := by
  by_cases h15 : bits .and .i64 a.kind 15 = 15
  rotate_left
  · have e : lz ts room m d a = s7 ts room m d a := by unfold lz s7 gN; rw [if_neg h15]
    rw [e]
    exact done_L a hE hd hok hn ha hf hfew h15 s
  obtain ⟨y0, y1, y2, y3, y4, rfl, h1⟩ := eY hd
  obtain ⟨W1, hW1, hs1⟩ := d9 s #[y0, y1, y2, y3, y4] a.cells.toArray cp aQ uq aQ
  obtain ⟨on, hon, ho7⟩ := rG a.owner
  have Ac := Eh (show lz ts room m d a = ((gP m on a.table a.many).1, (hO d on a.table a.many).1, decide ((gP m on a.table a.many).2 = (hO d on a.table a.many).2)) by unfold lz gN; rw [if_pos h15, hon])
  have hq1 := hok.q.len
  have hq2 := hok.dq.len
  have zw := Eh (show d.q.held.length + d.q.waits.length ≤ 999 by omega)
  have wZ := Eh (show d.r.length ≤ 999 by have := hok.dr; omega)
  have CH := Eh (show ∀ e ∈ d.q.held, ClmSm 1000000 e.c from fun e he => (hok.dq.all.1 e he).sm (by omega))
  have vP := Eh hok.dq.ok
  have HP := Eh (Esc_L (on : Int) a.table a.many hE (fun e he => (hok.q.all.1 e he).sm (by omega)) (by omega) (by have := hok.w; omega) (hs1.front 3 rfl))
  have uX := Eh (hs1.front 3 rfl)
  have HD := Eh hd
  have uW := Eh hW1
  obtain ⟨P1, hP1⟩ : ∃ P1, gP m on a.table a.many = P1 := ⟨_, rfl⟩
  obtain ⟨P2, hP2⟩ : ∃ P2, hO d on a.table a.many = P2 := ⟨_, rfl⟩
  rw [hP1, hP2] at Ac
  rw [hP1] at HP
  have AD := Eh hP2
  obtain ⟨p1, pb⟩ := P1
  obtain ⟨p2, pc⟩ := P2
  have BU := Eh (show (pb == pc) = decide (pb = pc) from by cases pb <;> cases pc <;> rfl)
  clear s hs1 hW1 hok hn ha hf hfew hE hd h1 hq1 hq2 hP1 hP2
  go_enter Tryz.func24, Tryz.ntmps24
  go_upto_region 1 with fail
  rw [← uW.out]
  clear uW
  generalize w.heap.size + 1 + 1 = b3 at *
  generalize w.heap.size + 1 = b2 at *
  generalize w.heap.size = b1 at *
  obtain ⟨x0, x1, x2, x3, x4, x5⟩ := eD (uX.out.blk 2 rfl)
  go_upto_region 21 with fail
  clear h15 hon
  go_upto_region 22 with (go_at_call 19; refine HP.out.mono ?_; rintro e5 w5 ⟨D5, rfl, hle5, hs5⟩; have vC := Eh hle5; have uZ := Eh hs5; clear hle5 hs5 HP uX x0 x1 x2 x3 x4 x5)
  obtain ⟨x0, x1, x2, x3, x4, x5⟩ := eD (uZ.out.blk 2 rfl)
  have vx := Eh (aG (uZ.out.blk 1 rfl))
  have HR := Eh (tZ (on : Int) a.table a.many (HD.out.mono vC.out) vP.out CH.out wZ.out zw.out uZ.out)
  rw [AD.out] at HR
  go_upto_region 23 with (first | (refine ai rfl _ _ rfl _ _ rfl [_, _, _, _, _] vx.out ?_) | (go_at_call 61; refine HR.out.mono ?_; rintro e6 w6 ⟨v6, D6, rfl, hle6, hd6, hs6⟩; obtain ⟨z0, z1, z2, z3, z4, rfl, hz⟩ := eY hd6; have HZ := Eh hz; have yb := Eh hd6; have vF := Eh hle6; have vi := Eh (hs6.alloc #[z0, z1, z2, z3, z4] aQ); clear hle6 hs6 hd6 hz HR vx uZ x0 x1 x2 x3 x4 x5) | (refine ax rfl _ _ _ rfl [z0, z1, z2, z3, z4] _ _ rfl rfl (by kernel_rfl) rfl HZ.out ?_))
  obtain ⟨W7, hW7, hs7⟩ := Sat.hide vi.out
  rw [← hW7]
  clear hW7 vi
  generalize w6.heap.size = bn at hs7 ⊢
  have vK := Eh (aG (hs7.blk 0 rfl))
  have vn := Eh (hs7.front 4 rfl)
  clear hs7
  go_wp2_with (first | (refine ai rfl _ _ rfl _ _ rfl [_, _, _, _, _] vK.out ?_) | (refine ap rfl _ _ _ rfl aQ b3 rfl [z0, z1, z2, z3, z4] rfl cp vn.out (by kernel_rfl) rfl HZ.out ?_; intro w9 hs9; have vq := Eh hs9; clear hs9 vn vK))
  refine bodyPost_ret (aL rfl _ _ rfl (aG (vq.out.blk 0 rfl))) rfl ?_
  rw [Ac.out]
  dsimp only
  rw [← BU.out]
  refine ⟨.agg #[z0, z1, z2, z3, z4], D6, rfl, vC.out.trans vF.out, yb.out, ?_⟩
  exact bK (vq.out.drop.drop.swap.drop.swap.drop) vF.out
structure LkFine (n : Nat) (m : LkM) : Prop where
  sc : ScOk n m.q
  w : m.why.length ≤ n
  sound : Sound m.q
  why : dM m.why
structure LkBoth (ts : List (List Bool)) (room : Int) (n : Nat) (m : LkM) (d : DocM) : Prop where
  ok : LkOk n m d
  same : LkSame ts room m d
  sound : Sound m.q
theorem LkBoth.mono {ts : List (List Bool)} {room : Int} {n k : Nat} {m : LkM} {d : DocM} (h : LkBoth ts room n m d) (hk : n ≤ k) : LkBoth ts room k m d := ⟨h.ok.mono hk, h.same, h.sound⟩
theorem LkBoth.fine {ts : List (List Bool)} {room : Int} {n : Nat} {m : LkM} {d : DocM} (h : LkBoth ts room n m d) : LkFine n m := ⟨h.ok.q, h.ok.w, h.sound, h.same.w⟩
theorem pi (ts : List (List Bool)) (room : Int) : LkBoth ts room 0 ⟨⟨[], []⟩, []⟩ ⟨ts, room, ⟨[], []⟩, []⟩ :=
  ⟨⟨⟨⟨List.Pairwise.nil, List.Pairwise.nil⟩, ⟨fun e he => (by cases he), fun e he => (by cases he)⟩, Nat.le_refl _⟩, Nat.le_refl _, ⟨⟨List.Pairwise.nil, List.Pairwise.nil⟩, ⟨fun e he => (by cases he), fun e he => (by cases he)⟩, Nat.le_refl _⟩, Nat.le_refl _⟩,
   ⟨rfl, rfl, rfl, fun r hr => (by cases hr), fun r hr => (by cases hr), fun o c b _ => ⟨fun ⟨r, hr, _⟩ => (by cases hr), fun ⟨r, hr, _⟩ => (by cases hr)⟩, fun r hr => (by cases hr)⟩, sC⟩
theorem uK {ts : List (List Bool)} {room : Int} {n : Nat} {m : LkM} {d : DocM} (h : LkBoth ts room n m d) (a : ActE) (hf : bV a.x.c) (hfew : fK a.x.c = true) : LkBoth ts room (n + 1) (lz ts room m d a).1 (lz ts room m d a).2.1 ∧ (lz ts room m d a).2.2 = true := by
  obtain ⟨on, hon, ho7⟩ := rG a.owner
  unfold lz
  rw [hon]
  obtain ⟨h1, h2⟩ := sE h.ok.q.ok h.same (bits .and .i64 a.kind 15) on a.x.c a.dur a.hand a.table a.many
  exact ⟨⟨ut h.ok _ ⟨by omega, by omega⟩ hf hfew _ _ _ _, h1, qC h.sound _ _ _ _ _ _ _⟩, h2⟩
theorem TblsAt.of_rd {w : World} {v : Value} {ts : List (List Bool)} (h : TblsRd w v ts) : TblsAt (cw w) v ts := by
  obtain ⟨hs, hl, hr, hc⟩ := h
  refine ⟨hs, hl, fun u hu => ?_, RdP.of_rd hr (by omega), fun i u r a b => RdP.of_rd (hc i u r a b) (by omega)⟩
  obtain ⟨i, hi⟩ := List.getElem?_of_mem hu
  have hlt := (List.getElem?_eq_some_iff.1 hi).1
  obtain ⟨r, hr'⟩ : ∃ r, ts[i]? = some r := ⟨ts[i]'(by omega), List.getElem?_eq_getElem _⟩
  obtain ⟨_, _, ao, cap, rfl, _⟩ := hc i u r hi hr'
  rfl
def sd (B : World) (D : PH) (l : List HP) (ts : List (List Bool)) (r : Ending) (w' : World) : Prop := ∃ (L : Nat) (D' : PH) (m : LkM) (rm : Int), r = .returned (.pointer (some ⟨L, 0, none⟩)) ∧ PH.le D D' ∧ LkFine 40 m ∧ Sat B D' w' (cd D' L ts rm m :: l)
theorem nZ {B w : World} {D : PH} {l : List HP} {tv av : Value} {ts : List (List Bool)} {acts : List ActE} (room : Int) (hE : EnvD D) (ht : TblsAt D tv ts) (hz : ∀ c ∈ ts, c.length ≤ 140737488355328) (hn : ts.length ≤ 1000) (hv : ActsD D av acts) (h : Sat B D w l) :
    Calls Tryz.prog 18 #[tv, .int .i64 room, av] w (sd B D l ts) := by
  have HV := Eh hv
  have HE := Eh hE
  have AK := Eh ht
  obtain ⟨a, c, rfl, hN⟩ := HV.out.shape
  obtain ⟨rm, hrm⟩ : ∃ rm, rm = min (max room 0) 200 := ⟨_, rfl⟩
  have AE := Eh hrm
  have xT := Eh (uz room ht hn hz h)
  rw [← hrm] at xT
  clear hv hE ht hz h hrm hn
  go_enter Tryz.func18, Tryz.ntmps18
  go_upto_region 2 with (go_at_call 12; refine xT.out.mono ?_; rintro e2 w2 ⟨L, D2, rfl, hle2, hs2⟩; have vv := Eh hle2; have vg := Eh hs2; clear hle2 hs2 xT)
  have yM := Eh (re room (AK.out.mono vv.out) vg.out)
  rw [← AE.out] at yM
  clear vg
  go_upto_region 3 with (first | (go_at_call 22; refine yM.out.mono ?_; rintro e3 w3 ⟨v3, D3, rfl, hle3, hd3, hs3⟩; obtain ⟨y0, y1, y2, y3, y4, rfl, hy⟩ := eY hd3; have wl := Eh (vv.out.trans hle3); have B0 := Eh hd3; have HY := Eh hy; have uY := Eh (hs3.alloc #[y0, y1, y2, y3, y4] aQ); have Ar := Eh hle3; clear hle3 hd3 hy hs3 yM) | (refine ax rfl _ _ _ rfl [y0, y1, y2, y3, y4] _ _ rfl rfl (by kernel_rfl) rfl HY.out ?_))
  obtain ⟨W4, hW4, hs4⟩ := Sat.hide uY.out
  rw [← hW4]
  clear hW4 uY
  generalize w3.heap.size = b9 at hs4 ⊢
  have vh := Eh (show Sat B D3 W4 (blk b9 #[y0, y1, y2, y3, y4] aQ :: cd D3 L ts rm ⟨⟨[], []⟩, []⟩ :: l) from (bK hs4.swap Ar.out).swap)
  clear hs4 Ar
  go_wp2_with fail
  go_loopw [9] (fun ii wr => ∃ (j : Nat) (D1 : PH) (m : LkM) (d : DocM) (y0 y1 y2 y3 y4 : Value), ii = .int .i64 j ∧ j ≤ acts.length ∧ j ≤ 40 ∧ PH.le D D1 ∧ LkBoth ts rm j m d ∧ DocD D1 (.agg #[y0, y1, y2, y3, y4]) d ∧ Sat B D1 wr (blk b9 #[y0, y1, y2, y3, y4] aQ :: cd D1 L ts rm m :: l)) (fun ii _ => 40 - (intOf ii).toNat)
  case atStart => exact ⟨0, D3, _, _, y0, y1, y2, y3, y4, rfl, Nat.zero_le _, by omega, wl.out, pi ts rm, B0.out, vh.out⟩
  case round =>
    obtain ⟨j, D1, m, d, y0, y1, y2, y3, y4, rfl, hj, hj40, hle, hok, hd, hs⟩ := hrel
    have vz := Eh hle
    have vP := Eh hok
    have HD := Eh hd
    have HS := Eh hs
    clear hle hok hd hs vh B0 HY wl
    by_cases hlt : j < acts.length ∧ j < 40
    rotate_left
    · by_cases h1 : j < acts.length
      · have hji : (j : Int) < (acts.length : Int) := by omega
        have hji2 : ¬ ((j : Int) < 40) := by omega
        go_wp2_with fail
        go_ret
        exact ⟨L, D1, m, rm, rfl, vz.out, (vP.out.mono hj40).fine, HS.out.drop⟩
      · have hji : ¬ ((j : Int) < (acts.length : Int)) := by omega
        go_wp2_with fail
        go_ret
        exact ⟨L, D1, m, rm, rfl, vz.out, (vP.out.mono hj40).fine, HS.out.drop⟩
    have hji : (j : Int) < (acts.length : Int) := by omega
    have hji2 : (j : Int) < 40 := by omega
    obtain ⟨x, hx⟩ : ∃ x, acts[j]? = some x := ⟨acts[j]'hlt.1, List.getElem?_eq_getElem _⟩
    obtain ⟨g, og, hg, hr, hr2, hxo, hfit⟩ := oF (HV.out.mono vz.out) HS.out rfl hx
    subst hg
    have HX := Eh hx
    have zn := Eh hxo
    have yg := Eh hfit
    have HL := Eh (az hr2)
    have xu := Eh (qu (hxo.rd HS.out))
    clear hx hr hr2 hxo hfit
    cases hfew : fK x.x.c
    · rw [hfew] at xu
      clear hfew
      go_wp2_with (first | (refine ai rfl _ _ rfl _ _ rfl _ HL.out ?_) | (go_at_call 23; refine xu.out.mono ?_; rintro e5 w5 ⟨rfl, hk5⟩; have uZ := Eh (HS.out.kept hk5); clear hk5 HS xu HL))
      go_roundw
      case rel => exact ⟨j + 1, D1, m, d, y0, y1, y2, y3, y4, by go_num, by omega, by omega, vz.out, vP.out.mono (Nat.le_succ j), HD.out, uZ.out⟩
      case measure => simp [intOf]; omega
    rw [hfew] at xu
    have HF := Eh hfew
    clear hfew
    go_upto_region 8 with (first | (refine ai rfl _ _ rfl _ _ rfl _ HL.out ?_) | (go_at_call 23; refine xu.out.mono ?_; rintro e5 w5 ⟨rfl, hk5⟩; have uZ := Eh (HS.out.kept hk5); clear hk5 HS xu HL))
    have vi := Eh uZ.out.drew
    clear uZ
    obtain ⟨g2, og2, hg2, hr, _⟩ := oF (HV.out.mono vz.out) vi.out rfl HX.out
    cases hg2
    have Ad := Eh (mX hr)
    have vx := Eh (aG (vi.out.blk 0 rfl))
    have zU := Eh (pD x (HE.out.mono vz.out) HD.out vP.out.ok (by omega) zn.out yg.out HF.out vi.out.swap)
    have yN := Eh (uK vP.out x yg.out HF.out)
    obtain ⟨R, hR⟩ : ∃ R, lz ts rm m d x = R := ⟨_, rfl⟩
    rw [hR] at zU yN
    obtain ⟨m2, d2, rb⟩ := R
    clear hr hR
    refine ag [(0, false, 6), (1, false, 6), (2, false, 6), (3, false, 6), (4, false, 6), (5, false, 6), (6, true, 0), (7, false, 10), (8, false, 10), (9, false, 999), (10, true, 0)] (by kernel_rfl) (by kernel_rfl) ?_
    iterate 6 (refine af rfl rfl (fun K hK => ?_); (first | ((refine aj _ _ rfl _ _ rfl _ vx.out ?_); go_simp) | ((refine aj _ _ rfl _ _ rfl _ Ad.out ?_); go_simp) | go_simp); refine hK _ ?_; clear hK K)
    refine al rfl ?_
    refine aw rfl (fun K hK => ?_)
    go_simp
    refine zU.out.mono ?_
    rintro e6 w6 ⟨v6, D6, rfl, hle6, hd6, hs6⟩
    obtain ⟨z0, z1, z2, z3, z4, rfl, hz5⟩ := eY hd6
    have DT := Eh hz5
    have yb := Eh hd6
    have vF := Eh (vz.out.trans hle6)
    have vn := Eh hs6.swap
    clear hle6 hs6 hd6 hz5 zU Ad vx vi
    refine hK _ _ ?_
    clear hK K
    refine wpList_nil ?_
    refine And.intro ?_ ?_
    · go_simp
    iterate 3 (refine af rfl rfl (fun K hK => ?_); (first | ((refine aj _ _ rfl _ _ rfl _ vx.out ?_); go_simp) | ((refine aj _ _ rfl _ _ rfl _ Ad.out ?_); go_simp) | go_simp); refine hK _ ?_; clear hK K)
    refine al rfl ?_
    refine ap rfl _ _ _ rfl aQ b9 rfl [z0, z1, z2, z3, z4] rfl _ vn.out (by kernel_rfl) rfl DT.out ?_
    intro w9 hs9
    have vu := Eh hs9
    clear hs9 vn
    refine wpList_nil ?_
    refine And.intro ?_ ?_
    · go_simp
    refine ar ?_
    clear vP HD vz
    go_wp2_with fail
    go_roundw
    case rel => exact ⟨j + 1, D6, m2, d2, z0, z1, z2, z3, z4, by go_num, by omega, by omega, vF.out, yN.out.1, yb.out, vu.out⟩
    case measure => simp [intOf]; omega
end Go.Proofs.YtgljdkjepdknnaaGreatDoor
namespace Go.Proofs.YtgljdkjepdknnaaGreatDoor
set_option linter.unusedSimpArgs false
theorem oq {l : List (Ent Clm)} {e : Ent Clm} {o : Int} (h : e.o ≠ o) : (cy RC l e).filter (ofE o) = l.filter (ofE o) := by
  unfold cy
  split
  · rename_i k hk
    obtain ⟨y, hy, hyo, _, _⟩ := eG hk
    exact iL hy (by unfold ofE; simp [hyo, h]) (by unfold ofE Ent.less; simp [h])
  · rw [List.filter_append]
    have : [e.less].filter (ofE o) = [] := by simp [ofE, Ent.less, h]
    rw [this, List.append_nil]
theorem np {q : Qm Clm} {o : Int} (h : ∀ e ∈ q.waits, e.o ≠ o) : aN (bS RC q).1 o = aN q o := by
  have := dv (R := RC) (P := fun p => (∀ e ∈ p.waits, e.o ≠ o) ∧ aN p o = aN q o) (fun p i e hp hf he => ⟨fun x hx => hp.1 x (List.mem_of_mem_eraseIdx hx), by
    have h2 := hp.2
    unfold aN cP at *
    dsimp only
    rw [oq (hp.1 e (List.mem_of_getElem? he))]
    exact h2⟩) q.waits.length q ⟨h, rfl⟩
  exact this.2
theorem pW {q : Qm Clm} {o : Int} (h : ∀ e ∈ q.waits, e.o ≠ o) (R : List Clm) : aN (aY RC q (cq o R)).1 o = (aN q o).filter (fun c => !R.any (fun x => RC.same c x)) := by
  unfold aY
  rw [np (q := ⟨q.held.filter (fun e => !cq o R e), q.waits⟩) h]
  unfold aN
  dsimp only
  rw [List.filter_map, List.filter_filter, List.filter_filter]
  congr 1
  refine List.filter_congr (fun e _ => ?_)
  unfold cq ofE
  by_cases ho : e.o = o <;> simp [ho]
theorem pS {q : Qm Clm} {o : Int} (h : ∀ e ∈ q.waits, e.o ≠ o) (g : Ent Clm → Bool) : ∀ e ∈ (aY RC q g).1.waits, e.o ≠ o := fun e he => h e ((rO (R := RC) ⟨q.held.filter (fun e => !g e), q.waits⟩).subset he)
theorem hold_in {q : Qm Clm} {o : Int} {x : Ent Clm} (hx : x ∈ q.held) (ho : x.o = o) : x.c ∈ aN q o := List.mem_map.2 ⟨x, List.mem_filter.2 ⟨hx, by unfold ofE; simp [ho]⟩, rfl⟩
structure Stay8 (m : LkM) (o : Int) (c : Clm) : Prop where
  w : ∀ e ∈ m.q.waits, e.o ≠ o
  h : ∃ x ∈ aN m.q o, RC.cov x c = true
  why : Has m.why o c 8
  ok : dM m.why
theorem jS {m : LkM} {o : Int} {c : Clm} (S : Stay8 m o c) {w : Int} (hw : w ∈ d4) (h8 : w ≠ 8) : Stay8 (cY m o w).1 o c := by
  have hh : Has (dH m.why o w) o c 8 := (oD S.ok o hw o c (b := 8) (by decide)).2 ⟨S.why, fun h => h8 h.2.symm⟩
  refine ⟨pS S.w _, ?_, hh, ng S.ok o hw⟩
  obtain ⟨x, hx, hxc⟩ := S.h
  refine ⟨x, ?_, hxc⟩
  show x ∈ aN (aY RC m.q (cq o ((aN m.q o).filter (fun c => (atR (dH m.why o w) o c).isNone)))).1 o
  rw [pW S.w]
  refine List.mem_filter.2 ⟨hx, ?_⟩
  rw [Bool.not_eq_true', List.any_eq_false]
  intro y hy hs
  have hn := (List.mem_filter.1 hy).2
  obtain ⟨r, hr, hro, hrs, _⟩ := hh
  unfold atR at hn
  rw [Option.isNone_iff_eq_none, List.findIdx?_eq_none_iff] at hn
  have := hn r hr
  unfold ofR at this
  have h1 : RC.same r.c y = true := by rw [dl hrs, ← dl (gH.1 hxc).1]; exact hs
  simp [hro, h1] at this
theorem tn {m : LkM} (K : Keep m.q) (hw : dM m.why) {ts : List (List Bool)} {room o : Int} {c : Clm} (h0 : (cW m room (bH ts c) o c 3 0).2.2 = 0) (h1 : (cW m room (bH ts c) o c 3 0).2.1 = true) : Stay8 (cW m room (bH ts c) o c 3 0).1 o c := by
  revert h0 h1
  unfold cW
  split
  · intro h; simp at h
  split
  · intro h; simp at h
  split
  · intro h; simp at h
  · rename_i hm _ _
    intro _ h1
    have hmay : bH ts c = true := by cases hm2 : bH ts c; rw [hm2] at hm; simp at hm; rfl
    obtain ⟨k1, _, k3⟩ := pq K o (lO hmay) true
    obtain ⟨w1, _, x, hx, hxo, hxc⟩ := k3 h1
    exact ⟨w1, ⟨x.c, hold_in hx hxo, hxc⟩, (kV hw o c (w := 8) (by decide) o c (b := 8) (by decide)).2 (.inr ⟨rfl, lq hmay, rfl⟩), kz hw o c (by decide)⟩
theorem ask_err {m : LkM} {room : Int} {ok : Bool} {o : Int} {c : Clm} {dur hand : Int} (h0 : (cW m room ok o c dur hand).2.2 ≠ 0) : (cW m room ok o c dur hand).2.1 = false ∧ ((cW m room ok o c dur hand).2.2 = 111 ∨ (cW m room ok o c dur hand).2.2 = 110 ∨ (cW m room ok o c dur hand).2.2 = 62) := by
  revert h0
  unfold cW
  split
  · exact fun _ => ⟨rfl, .inl rfl⟩
  split
  · exact fun _ => ⟨rfl, .inr (.inl rfl)⟩
  split
  · exact fun _ => ⟨rfl, .inr (.inr rfl)⟩
  · exact fun h => absurd rfl h
theorem mJ (m : LkM) (o : Int) : aN (fM m o).1.q o = [] ∧ (aP (fM m o).1.q o).2 = false ∧ db RC (fM m o).1.q o = [] := by
  have h := rN (R := RC) (q := m.q) (P := fun _ _ => True) ⟨fun _ _ => trivial, fun _ _ => trivial⟩ o
  have hw : bJ (fM m o).1.q.waits o = none := by
    unfold bJ
    rw [List.findIdx?_eq_none_iff]
    intro e he
    have := (h.2 e he).2
    unfold ofE
    simpa using this
  refine ⟨sY (fun e he => (h.1 e he).2), by rw [eH, hw]; rfl, ?_⟩
  unfold db
  rw [hw]
theorem jL {n : Nat} {m : LkM} (F : LkFine n m) (o : Int) {w : Int} (hw : w ∈ d4) : LkFine n (cY m o w).1 := ⟨fH F.sc _, Nat.le_trans (mi _ _ _) F.w, eJ F.sound _, ng F.why o hw⟩
theorem oP {n : Nat} {m : LkM} (F : LkFine n m) (o : Int) : LkFine n (fM m o).1 := ⟨fH (g8 F.sc o) _, Nat.le_trans (show (bI m.why o (fun _ => true)).length ≤ _ from fD _ _ _) F.w, eJ (gT F.sound o) _, (show dM (bI m.why o (fun _ => true)) from iw F.why o _)⟩
theorem ug {n : Nat} {m : LkM} (F : LkFine n m) {ts : List (List Bool)} {room o : Int} (ho : 0 ≤ o ∧ o ≤ 7) {c : Clm} (hc : bV c) (hf : fK c = true) : LkFine (n + 1) (cW m room (bH ts c) o c 3 0).1 := by
  have hup : LkFine (n + 1) m := ⟨F.sc.mono (Nat.le_succ n), Nat.le_trans F.w (Nat.le_succ n), F.sound, F.why⟩
  unfold cW
  split
  · exact hup
  split
  · exact hup
  split
  · exact hup
  · rename_i hm _ _
    have hmay : bH ts c = true := by cases hm2 : bH ts c; rw [hm2] at hm; simp at hm; rfl
    exact ⟨lG F.sc ho hc hf true, Nat.le_trans (jI _ _ _ _) (by have := F.w; omega), jX F.sound o (lO hmay) true, kz F.why o c (by decide)⟩
theorem tg {q : Qm Clm} {n : Nat} (hA : Apart RC q.held) (hS : ScOk n q) {a b : Int} (hab : a ≠ b) {cs ds : List ClmE} (hc : cs.map ClmE.c = aN q a) (hd : ds.map ClmE.c = aN q b) {x y : ClmE} (hx : x ∈ cs) (hy : y ∈ ds) : RC.conf x.c y.c = false ∧ bV x.c ∧ bV y.c := by
  obtain ⟨e, he, heo, hec⟩ := mF (show x.c ∈ aN q a by rw [← hc]; exact List.mem_map.2 ⟨x, hx, rfl⟩)
  obtain ⟨f, hf, hfo, hfc⟩ := mF (show y.c ∈ aN q b by rw [← hd]; exact List.mem_map.2 ⟨y, hy, rfl⟩)
  refine ⟨?_, ?_, ?_⟩
  · rw [← hec, ← hfc]; exact hA e he f hf (by rw [heo, hfo]; exact hab)
  · rw [← hec]; exact (hS.all.1 e he).2.1
  · rw [← hfc]; exact (hS.all.1 f hf).2.1
theorem qB {q : Qm Clm} (S : kg RC q) (o : Int) : (aP q o).2 = decide (0 < (cC (db RC q o)).length) := by
  rw [eH, Bool.eq_iff_iff, ← nY S o, decide_eq_true_eq, List.length_pos_iff]
  exact not_congr putAll_nil.symm
theorem LkFine.len {n : Nat} {m : LkM} (F : LkFine n m) : m.q.held.length + m.q.waits.length ≤ n := F.sc.len
theorem LkFine.sm {n : Nat} {m : LkM} (F : LkFine n m) (hn : n ≤ 1000) : ∀ e ∈ m.q.held, ClmSm 1000000 e.c := fun e he => (F.sc.all.1 e he).sm hn
end Go.Proofs.YtgljdkjepdknnaaGreatDoor
