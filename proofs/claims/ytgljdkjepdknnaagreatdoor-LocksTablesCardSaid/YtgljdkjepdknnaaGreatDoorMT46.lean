/- Joined texts: An act over locks and over the document's, Escalate too (ratlinelaw11.done). Locks behind a script of acts (ratlinelaw11.behind). What the laws LocksApart, LocksStays and LocksTables say, of the data. -/
import Derived.Test.YtgljdkjepdknnaaGreatDoorMT42
import Derived.Test.YtgljdkjepdknnaaGreatDoorMT45
import Derived.Test.YtgljdkjepdknnaaGreatDoorMT43
import Derived.Test.YtgljdkjepdknnaaGreatDoorMT26
set_option maxHeartbeats 64000000
namespace Go.Proofs.YtgljdkjepdknnaaGreatDoor
open Go.ChangeShapes Go.WideShapes Go.ChangeAt Go.RowKit
set_option maxRecDepth 100000
set_option linter.unusedSimpArgs false
theorem lO (table : Int) (rows : List Clm) : gh (cM table rows) = true := by
  unfold gh cM
  dsimp only
  rw [PredT.flat_eq]
  simp
theorem rR {n : Nat} {ts : List (List Bool)} {room : Int} {m : LkM} {d : DocM} (h : LkOk n m d) (k : Int) {o : Int} (ho : 0 ≤ o ∧ o ≤ 7) {c : Clm} (hc : bS c) (hf : gh c = true) (dur hand table many : Int) :
    LkOk (n + 1) (fX ts room m d k o c dur hand table many).1 (fX ts room m d k o c dur hand table many).2.1 := by
  unfold fX
  split
  · have h1 : ScOk (n + 1) (dG m o table many).1.q ∧ (dG m o table many).1.why.length ≤ n + 1 := by
      unfold dG
      split
      · exact ⟨h.q.mono (Nat.le_succ n), Nat.le_trans h.w (Nat.le_succ n)⟩
      · exact ⟨fJ (jN h.q ho (jH table (eV _)) (lO _ _) false) _, Nat.le_trans (fb _ _ _) (Nat.le_trans (i5 _ _ _ _) (by have := h.w; omega))⟩
    have h2 : ScOk (n + 1) (gC d o table many).1.q ∧ (gC d o table many).1.r.length ≤ n + 1 := by
      unfold gC
      split
      · exact ⟨h.dq.mono (Nat.le_succ n), Nat.le_trans h.dr (Nat.le_succ n)⟩
      · refine ⟨fJ (jN h.dq ho (jH table (eV _)) (lO _ _) false) _, ?_⟩
        show (_ ++ [_]).length ≤ n + 1
        rw [List.length_append]
        have := eL o (aR d.q o table) d.r
        have := h.dr
        simp only [List.length_singleton]
        omega
    exact ⟨h1.1, h1.2, h2.1, h2.2⟩
  · exact so h k ho hc hf dur hand
noncomputable def kV (ts : List (List Bool)) (room : Int) (m : LkM) (d : DocM) (a : ActE) : LkM × DocM × Bool := fX ts room m d (bits .and .i64 a.kind 15) (bits .and .i64 a.owner 7) a.x.c a.dur a.hand a.table a.many
theorem done_M {B w : World} {D : PH} {l : List HP} {L n : Nat} {ts : List (List Bool)} {room : Int} {v : Value} {m : LkM} {d : DocM} (a : ActE) (hE : EnvD D) (hd : DocD D v d) (hok : LkOk n m d) (hn : n ≤ 900) (ha : ClOk D a.x) (hf : bS a.x.c) (hfew : gh a.x.c = true) (s : Sat B D w (b7 D L ts room m :: l)) :
    Calls Tryz.prog 24 #[.pointer (some ⟨L, 0, none⟩), v, .agg a.cells.toArray] w (DoneL B D l L ts room (kV ts room m d a)) := by
  by_cases h15 : bits .and .i64 a.kind 15 = 15
  rotate_left
  · have e : kV ts room m d a = sA ts room m d a := by unfold kV sA fX; rw [if_neg h15]
    rw [e]
    exact done_L a hE hd hok hn ha hf hfew h15 s
  obtain ⟨y0, y1, y2, y3, y4, rfl, h1⟩ := eW hd
  obtain ⟨W1, hW1, hs1⟩ := dJ s #[y0, y1, y2, y3, y4] a.cells.toArray cd aP kN aP
  obtain ⟨on, hon, ho7⟩ := oU a.owner
  have xL := BO (show kV ts room m d a = ((dG m on a.table a.many).1, (gC d on a.table a.many).1, decide ((dG m on a.table a.many).2 = (gC d on a.table a.many).2)) by unfold kV fX; rw [if_pos h15, hon])
  have hq1 := hok.q.len
  have hq2 := hok.dq.len
  have wS := BO (show d.q.held.length + d.q.waits.length ≤ 999 by omega)
  have uD := BO (show d.r.length ≤ 999 by have := hok.dr; omega)
  have Ax := BO (show ∀ e ∈ d.q.held, ClmSm 1000000 e.c from fun e he => (hok.dq.all.1 e he).sm (by omega))
  have tJ := BO hok.dq.ok
  have HP := BO (Esc_L (on : Int) a.table a.many hE (fun e he => (hok.q.all.1 e he).sm (by omega)) (by omega) (by have := hok.w; omega) (hs1.front 3 rfl))
  have sS := BO (hs1.front 3 rfl)
  have HD := BO hd
  have sR := BO hW1
  obtain ⟨P1, hP1⟩ : ∃ P1, dG m on a.table a.many = P1 := ⟨_, rfl⟩
  obtain ⟨P2, hP2⟩ : ∃ P2, gC d on a.table a.many = P2 := ⟨_, rfl⟩
  rw [hP1, hP2] at xL
  rw [hP1] at HP
  have yg := BO hP2
  obtain ⟨p1, pb⟩ := P1
  obtain ⟨p2, pc⟩ := P2
  have zF := BO (show (pb == pc) = decide (pb = pc) from by cases pb <;> cases pc <;> rfl)
  clear s hs1 hW1 hok hn ha hf hfew hE hd h1 hq1 hq2 hP1 hP2
  go_enter Tryz.func24, Tryz.ntmps24
  go_upto_region 1 with fail
  rw [← sR.out]
  clear sR
  generalize w.heap.size + 1 + 1 = b3 at *
  generalize w.heap.size + 1 = b2 at *
  generalize w.heap.size = b1 at *
  obtain ⟨x0, x1, x2, x3, x4, x5⟩ := dd (sS.out.blk 2 rfl)
  go_upto_region 21 with fail
  clear h15 hon
  go_upto_region 22 with (go_at_call 19; refine HP.out.mono ?_; rintro e5 w5 ⟨D5, rfl, hle5, hs5⟩; have tz := BO hle5; have sV := BO hs5; clear hle5 hs5 HP sS x0 x1 x2 x3 x4 x5)
  obtain ⟨x0, x1, x2, x3, x4, x5⟩ := dd (sV.out.blk 2 rfl)
  have tm := BO (aF (sV.out.blk 1 rfl))
  have HR := BO (ry (on : Int) a.table a.many (HD.out.mono tz.out) tJ.out Ax.out uD.out wS.out sV.out)
  rw [yg.out] at HR
  go_upto_region 23 with (first | (refine ag rfl _ _ rfl _ _ rfl [_, _, _, _, _] tm.out ?_) | (go_at_call 61; refine HR.out.mono ?_; rintro e6 w6 ⟨v6, D6, rfl, hle6, hd6, hs6⟩; obtain ⟨z0, z1, z2, z3, z4, rfl, hz⟩ := eW hd6; have HZ := BO hz; have wi := BO hd6; have tw := BO hle6; have s0 := BO (hs6.alloc #[z0, z1, z2, z3, z4] aP); clear hle6 hs6 hd6 hz HR tm sV x0 x1 x2 x3 x4 x5) | (refine ax rfl _ _ _ rfl [z0, z1, z2, z3, z4] _ _ rfl rfl (by kernel_rfl) rfl HZ.out ?_))
  obtain ⟨W7, hW7, hs7⟩ := Sat.hide s0.out
  rw [← hW7]
  clear hW7 s0
  generalize w6.heap.size = bn at hs7 ⊢
  have tE := BO (aF (hs7.blk 0 rfl))
  have td := BO (hs7.front 4 rfl)
  clear hs7
  go_wp2_with (first | (refine ag rfl _ _ rfl _ _ rfl [_, _, _, _, _] tE.out ?_) | (refine aq rfl _ _ _ rfl aP b3 rfl [z0, z1, z2, z3, z4] rfl cd td.out (by kernel_rfl) rfl HZ.out ?_; intro w9 hs9; have te := BO hs9; clear hs9 td tE))
  refine bodyPost_ret (aL rfl _ _ rfl (aF (te.out.blk 0 rfl))) rfl ?_
  rw [xL.out]
  dsimp only
  rw [← zF.out]
  refine ⟨.agg #[z0, z1, z2, z3, z4], D6, rfl, tz.out.trans tw.out, wi.out, ?_⟩
  exact cu (te.out.drop.drop.swap.drop.swap.drop) tw.out
structure LkFine (n : Nat) (m : LkM) : Prop where
  sc : ScOk n m.q
  w : m.why.length ≤ n
  sound : Sound m.q
  why : dU m.why
structure LkBoth (ts : List (List Bool)) (room : Int) (n : Nat) (m : LkM) (d : DocM) : Prop where
  ok : LkOk n m d
  same : LkSame ts room m d
  sound : Sound m.q
theorem LkBoth.mono {ts : List (List Bool)} {room : Int} {n k : Nat} {m : LkM} {d : DocM} (h : LkBoth ts room n m d) (hk : n ≤ k) : LkBoth ts room k m d := ⟨h.ok.mono hk, h.same, h.sound⟩
theorem LkBoth.fine {ts : List (List Bool)} {room : Int} {n : Nat} {m : LkM} {d : DocM} (h : LkBoth ts room n m d) : LkFine n m := ⟨h.ok.q, h.ok.w, h.sound, h.same.w⟩
theorem qV (ts : List (List Bool)) (room : Int) : LkBoth ts room 0 ⟨⟨[], []⟩, []⟩ ⟨ts, room, ⟨[], []⟩, []⟩ :=
  ⟨⟨⟨⟨List.Pairwise.nil, List.Pairwise.nil⟩, ⟨fun e he => (by cases he), fun e he => (by cases he)⟩, Nat.le_refl _⟩, Nat.le_refl _, ⟨⟨List.Pairwise.nil, List.Pairwise.nil⟩, ⟨fun e he => (by cases he), fun e he => (by cases he)⟩, Nat.le_refl _⟩, Nat.le_refl _⟩,
   ⟨rfl, rfl, rfl, fun r hr => (by cases hr), fun r hr => (by cases hr), fun o c b _ => ⟨fun ⟨r, hr, _⟩ => (by cases hr), fun ⟨r, hr, _⟩ => (by cases hr)⟩, fun r hr => (by cases hr)⟩, pP⟩
theorem lk_act {ts : List (List Bool)} {room : Int} {n : Nat} {m : LkM} {d : DocM} (h : LkBoth ts room n m d) (a : ActE) (hf : bS a.x.c) (hfew : gh a.x.c = true) : LkBoth ts room (n + 1) (kV ts room m d a).1 (kV ts room m d a).2.1 ∧ (kV ts room m d a).2.2 = true := by
  obtain ⟨on, hon, ho7⟩ := oU a.owner
  unfold kV
  rw [hon]
  obtain ⟨h1, h2⟩ := qp h.ok.q.ok h.same (bits .and .i64 a.kind 15) on a.x.c a.dur a.hand a.table a.many
  exact ⟨⟨rR h.ok _ ⟨by omega, by omega⟩ hf hfew _ _ _ _, h1, oD h.sound _ _ _ _ _ _ _⟩, h2⟩
theorem TblsAt.of_rd {w : World} {v : Value} {ts : List (List Bool)} (h : TblsRd w v ts) : TblsAt (cD w) v ts := by
  obtain ⟨hs, hl, hr, hc⟩ := h
  refine ⟨hs, hl, fun u hu => ?_, RdP.of_rd hr (by omega), fun i u r a b => RdP.of_rd (hc i u r a b) (by omega)⟩
  obtain ⟨i, hi⟩ := List.getElem?_of_mem hu
  have hlt := (List.getElem?_eq_some_iff.1 hi).1
  obtain ⟨r, hr'⟩ : ∃ r, ts[i]? = some r := ⟨ts[i]'(by omega), List.getElem?_eq_getElem _⟩
  obtain ⟨_, _, ao, cap, rfl, _⟩ := hc i u r hi hr'
  rfl
def pQ (B : World) (D : PH) (l : List HP) (ts : List (List Bool)) (r : Ending) (w' : World) : Prop := ∃ (L : Nat) (D' : PH) (m : LkM) (rm : Int), r = .returned (.pointer (some ⟨L, 0, none⟩)) ∧ PH.le D D' ∧ LkFine 40 m ∧ Sat B D' w' (b7 D' L ts rm m :: l)
theorem rD {B w : World} {D : PH} {l : List HP} {tv av : Value} {ts : List (List Bool)} {acts : List ActE} (room : Int) (hE : EnvD D) (ht : TblsAt D tv ts) (hz : ∀ c ∈ ts, c.length ≤ 140737488355328) (hn : ts.length ≤ 1000) (hv : ActsD D av acts) (h : Sat B D w l) :
    Calls Tryz.prog 18 #[tv, .int .i64 room, av] w (pQ B D l ts) := by
  have HV := BO hv
  have HE := BO hE
  have AE := BO ht
  obtain ⟨a, c, rfl, hN⟩ := HV.out.shape
  obtain ⟨rm, hrm⟩ : ∃ rm, rm = min (max room 0) 200 := ⟨_, rfl⟩
  have zp := BO hrm
  have wD := BO (New_L room ht hn hz h)
  rw [← hrm] at wD
  clear hv hE ht hz h hrm hn
  go_enter Tryz.func18, Tryz.ntmps18
  go_upto_region 2 with (go_at_call 12; refine wD.out.mono ?_; rintro e2 w2 ⟨L, D2, rfl, hle2, hs2⟩; have tr := BO hle2; have sX := BO hs2; clear hle2 hs2 wD)
  have AF := BO (rNew_ok room (AE.out.mono tr.out) sX.out)
  rw [← zp.out] at AF
  clear sX
  go_upto_region 3 with (first | (go_at_call 22; refine AF.out.mono ?_; rintro e3 w3 ⟨v3, D3, rfl, hle3, hd3, hs3⟩; obtain ⟨y0, y1, y2, y3, y4, rfl, hy⟩ := eW hd3; have vo := BO (tr.out.trans hle3); have Bd := BO hd3; have HY := BO hy; have sU := BO (hs3.alloc #[y0, y1, y2, y3, y4] aP); have yZ := BO hle3; clear hle3 hd3 hy hs3 AF) | (refine ax rfl _ _ _ rfl [y0, y1, y2, y3, y4] _ _ rfl rfl (by kernel_rfl) rfl HY.out ?_))
  obtain ⟨W4, hW4, hs4⟩ := Sat.hide sU.out
  rw [← hW4]
  clear hW4 sU
  generalize w3.heap.size = b9 at hs4 ⊢
  have sY := BO (show Sat B D3 W4 (blk b9 #[y0, y1, y2, y3, y4] aP :: b7 D3 L ts rm ⟨⟨[], []⟩, []⟩ :: l) from (cu hs4.swap yZ.out).swap)
  clear hs4 yZ
  go_wp2_with fail
  go_loopw [9] (fun ii wr => ∃ (j : Nat) (D1 : PH) (m : LkM) (d : DocM) (y0 y1 y2 y3 y4 : Value), ii = .int .i64 j ∧ j ≤ acts.length ∧ j ≤ 40 ∧ PH.le D D1 ∧ LkBoth ts rm j m d ∧ DocD D1 (.agg #[y0, y1, y2, y3, y4]) d ∧ Sat B D1 wr (blk b9 #[y0, y1, y2, y3, y4] aP :: b7 D1 L ts rm m :: l)) (fun ii _ => 40 - (intOf ii).toNat)
  case atStart => exact ⟨0, D3, _, _, y0, y1, y2, y3, y4, rfl, Nat.zero_le _, by omega, vo.out, qV ts rm, Bd.out, sY.out⟩
  case round =>
    obtain ⟨j, D1, m, d, y0, y1, y2, y3, y4, rfl, hj, hj40, hle, hok, hd, hs⟩ := hrel
    have tt := BO hle
    have tJ := BO hok
    have HD := BO hd
    have HS := BO hs
    clear hle hok hd hs sY Bd HY vo
    by_cases hlt : j < acts.length ∧ j < 40
    rotate_left
    · by_cases h1 : j < acts.length
      · have hji : (j : Int) < (acts.length : Int) := by omega
        have hji2 : ¬ ((j : Int) < 40) := by omega
        go_wp2_with fail
        go_ret
        exact ⟨L, D1, m, rm, rfl, tt.out, (tJ.out.mono hj40).fine, HS.out.drop⟩
      · have hji : ¬ ((j : Int) < (acts.length : Int)) := by omega
        go_wp2_with fail
        go_ret
        exact ⟨L, D1, m, rm, rfl, tt.out, (tJ.out.mono hj40).fine, HS.out.drop⟩
    have hji : (j : Int) < (acts.length : Int) := by omega
    have hji2 : (j : Int) < 40 := by omega
    obtain ⟨x, hx⟩ : ∃ x, acts[j]? = some x := ⟨acts[j]'hlt.1, List.getElem?_eq_getElem _⟩
    obtain ⟨g, og, hg, hr, hr2, hxo, hfit⟩ := actAt (HV.out.mono tt.out) HS.out rfl hx
    subst hg
    have HX := BO hx
    have yA := BO hxo
    have xj := BO hfit
    have HL := BO (ay hr2)
    have xM := BO (few_ok (hxo.rd HS.out))
    clear hx hr hr2 hxo hfit
    cases hfew : gh x.x.c
    · rw [hfew] at xM
      clear hfew
      go_wp2_with (first | (refine ag rfl _ _ rfl _ _ rfl _ HL.out ?_) | (go_at_call 23; refine xM.out.mono ?_; rintro e5 w5 ⟨rfl, hk5⟩; have sV := BO (HS.out.kept hk5); clear hk5 HS xM HL))
      go_roundw
      case rel => exact ⟨j + 1, D1, m, d, y0, y1, y2, y3, y4, by go_num, by omega, by omega, tt.out, tJ.out.mono (Nat.le_succ j), HD.out, sV.out⟩
      case measure => simp [intOf]; omega
    rw [hfew] at xM
    have HF := BO hfew
    clear hfew
    go_upto_region 8 with (first | (refine ag rfl _ _ rfl _ _ rfl _ HL.out ?_) | (go_at_call 23; refine xM.out.mono ?_; rintro e5 w5 ⟨rfl, hk5⟩; have sV := BO (HS.out.kept hk5); clear hk5 HS xM HL))
    have s0 := BO sV.out.drew
    clear sV
    obtain ⟨g2, og2, hg2, hr, _⟩ := actAt (HV.out.mono tt.out) s0.out rfl HX.out
    cases hg2
    have AG := BO (loadAct hr)
    have tm := BO (aF (s0.out.blk 0 rfl))
    have xB := BO (done_M x (HE.out.mono tt.out) HD.out tJ.out.ok (by omega) yA.out xj.out HF.out s0.out.swap)
    have zL := BO (lk_act tJ.out x xj.out HF.out)
    obtain ⟨R, hR⟩ : ∃ R, kV ts rm m d x = R := ⟨_, rfl⟩
    rw [hR] at xB zL
    obtain ⟨m2, d2, rb⟩ := R
    clear hr hR
    refine af [(0, false, 6), (1, false, 6), (2, false, 6), (3, false, 6), (4, false, 6), (5, false, 6), (6, true, 0), (7, false, 10), (8, false, 10), (9, false, 999), (10, true, 0)] (by kernel_rfl) (by kernel_rfl) ?_
    iterate 6 (refine ae rfl rfl (fun K hK => ?_); (first | ((refine aj _ _ rfl _ _ rfl _ tm.out ?_); go_simp) | ((refine aj _ _ rfl _ _ rfl _ AG.out ?_); go_simp) | go_simp); refine hK _ ?_; clear hK K)
    refine al rfl ?_
    refine aw rfl (fun K hK => ?_)
    go_simp
    refine xB.out.mono ?_
    rintro e6 w6 ⟨v6, D6, rfl, hle6, hd6, hs6⟩
    obtain ⟨z0, z1, z2, z3, z4, rfl, hz5⟩ := eW hd6
    have BH := BO hz5
    have wi := BO hd6
    have tw := BO (tt.out.trans hle6)
    have td := BO hs6.swap
    clear hle6 hs6 hd6 hz5 xB AG tm s0
    refine hK _ _ ?_
    clear hK K
    refine wpList_nil ?_
    refine And.intro ?_ ?_
    · go_simp
    iterate 3 (refine ae rfl rfl (fun K hK => ?_); (first | ((refine aj _ _ rfl _ _ rfl _ tm.out ?_); go_simp) | ((refine aj _ _ rfl _ _ rfl _ AG.out ?_); go_simp) | go_simp); refine hK _ ?_; clear hK K)
    refine al rfl ?_
    refine aq rfl _ _ _ rfl aP b9 rfl [z0, z1, z2, z3, z4] rfl _ td.out (by kernel_rfl) rfl BH.out ?_
    intro w9 hs9
    have ti := BO hs9
    clear hs9 td
    refine wpList_nil ?_
    refine And.intro ?_ ?_
    · go_simp
    refine ap ?_
    clear tJ HD tt
    go_wp2_with fail
    go_roundw
    case rel => exact ⟨j + 1, D6, m2, d2, z0, z1, z2, z3, z4, by go_num, by omega, by omega, tw.out, zL.out.1, wi.out, ti.out⟩
    case measure => simp [intOf]; omega
end Go.Proofs.YtgljdkjepdknnaaGreatDoor
namespace Go.Proofs.YtgljdkjepdknnaaGreatDoor
set_option linter.unusedSimpArgs false
theorem mZ {l : List (Ent Clm)} {e : Ent Clm} {o : Int} (h : e.o ≠ o) : (bX RC l e).filter (ofE o) = l.filter (ofE o) := by
  unfold bX
  split
  · rename_i k hk
    obtain ⟨y, hy, hyo, _, _⟩ := dx hk
    exact gU hy (by unfold ofE; simp [hyo, h]) (by unfold ofE Ent.less; simp [h])
  · rw [List.filter_append]
    have : [e.less].filter (ofE o) = [] := by simp [ofE, Ent.less, h]
    rw [this, List.append_nil]
theorem l5 {q : Qm Clm} {o : Int} (h : ∀ e ∈ q.waits, e.o ≠ o) : aE (bJ RC q).1 o = aE q o := by
  have := dN (R := RC) (P := fun p => (∀ e ∈ p.waits, e.o ≠ o) ∧ aE p o = aE q o) (fun p i e hp hf he => ⟨fun x hx => hp.1 x (List.mem_of_mem_eraseIdx hx), by
    have h2 := hp.2
    unfold aE ci at *
    dsimp only
    rw [mZ (hp.1 e (List.mem_of_getElem? he))]
    exact h2⟩) q.waits.length q ⟨h, rfl⟩
  exact this.2
theorem nA {q : Qm Clm} {o : Int} (h : ∀ e ∈ q.waits, e.o ≠ o) (R : List Clm) : aE (a8 RC q (bT o R)).1 o = (aE q o).filter (fun c => !R.any (fun x => RC.same c x)) := by
  unfold a8
  rw [l5 (q := ⟨q.held.filter (fun e => !bT o R e), q.waits⟩) h]
  unfold aE
  dsimp only
  rw [List.filter_map, List.filter_filter, List.filter_filter]
  congr 1
  refine List.filter_congr (fun e _ => ?_)
  unfold bT ofE
  by_cases ho : e.o = o <;> simp [ho]
theorem pD {q : Qm Clm} {o : Int} {x : Ent Clm} (hx : x ∈ q.held) (ho : x.o = o) : x.c ∈ aE q o := List.mem_map.2 ⟨x, List.mem_filter.2 ⟨hx, by unfold ofE; simp [ho]⟩, rfl⟩
theorem qL {a : Int} (h : aN a 3 = true ∨ aN a 6 = true) : a = 3 ∨ a = 4 ∨ a = 5 ∨ a = 6 := by
  have hm : br a = true := by
    unfold aN at h
    simp only [Bool.and_eq_true] at h
    rcases h with h | h <;> exact h.1.1
  rcases bB hm with rfl | rfl | rfl | rfl | rfl | rfl | rfl
  · exact absurd h (by decide)
  · exact absurd h (by decide)
  · exact absurd h (by decide)
  · exact .inl rfl
  · exact .inr (.inl rfl)
  · exact .inr (.inr (.inl rfl))
  · exact .inr (.inr (.inr rfl))
theorem ll {α : Type} (p : α → Bool) : ∀ l : List α, (l.filter p).length + (l.filter (fun x => !p x)).length = l.length
  | [] => rfl
  | x :: l => by
    have := ll p l
    rw [List.filter_cons, List.filter_cons]
    cases p x <;> simp <;> omega
theorem qI {m : LkM} {o table many : Int} (h : (dG m o table many).2 = false) : (dG m o table many).1 = m := by
  revert h
  unfold dG
  split
  · exact fun _ => rfl
  · intro h; cases h
theorem sh {m : LkM} (K : Keep m.q) {o table many p : Int} (hp : p ≠ o) : Covd m.q.held (dG m o table many).1.q.held p := by
  unfold dG
  split
  · exact fun e he ho => ⟨e, he, ho, fw (K.sane.1 e he)⟩
  · obtain ⟨k1, k2, _⟩ := jM K o (ir table (aR m.q o table)) false
    refine (k2 p).trans ((lx k1 _).2 p (fun e _ ho => ?_))
    unfold bT
    simp [ho, hp]
theorem qZ {m : LkM} (K : Keep m.q) {o table many : Int} (h : (dG m o table many).2 = true) :
    (∀ x ∈ aE (dG m o table many).1.q o, bm table x = false) ∧ (∃ x ∈ aE (dG m o table many).1.q o, x.kind = 1 ∧ x.table = table ∧ (x.mode = 3 ∨ x.mode = 4 ∨ x.mode = 5 ∨ x.mode = 6)) ∧ many < ((aR m.q o table).length : Int) ∧ (aE (dG m o table many).1.q o).length + (aR m.q o table).length ≤ (aE m.q o).length + 1 := by
  revert h
  unfold dG
  split
  · intro h; cases h
  · rename_i h0
    intro _
    have h2 : many < ((aR m.q o table).length : Int) := by
      by_cases h2 : ((aR m.q o table).length : Int) ≤ many
      · exact absurd (.inr (.inl h2)) h0
      · omega
    have h3 : (aV RC m.q o (cM table (aR m.q o table)) false).2 = true := by
      cases h3 : (aV RC m.q o (cM table (aR m.q o table)) false).2
      · exact absurd (.inr (.inr h3)) h0
      · rfl
    clear h0
    obtain ⟨k1, _, k3⟩ := jM K o (ir table (aR m.q o table)) false
    obtain ⟨w1, w2, x, hx, hxo, hxc⟩ := k3 h3
    have hrow := jL (q := m.q) (o := o) (table := table) (c := cM table (aR m.q o table)) rfl o
    have hlen := jG (R := RC) m.q o (cM table (aR m.q o table)) false
    have hview := rK (R := RC) (q := m.q) o (cM table (aR m.q o table)) (fun h hs => by rw [eP hs]; exact hs)
    have hmode : aN x.c.mode 3 = true ∨ aN x.c.mode 6 = true := by
      have := (fd.1 hxc).2.1
      unfold cM at this
      dsimp only at this
      split at this
      · exact .inr this
      · exact .inl this
    obtain ⟨s1, s2, _⟩ := cp.1 (fd.1 hxc).1
    have s1 : x.c.kind = 1 := s1
    have s2 : x.c.table = table := s2
    clear hxc
    generalize aV RC m.q o (cM table (aR m.q o table)) false = A at *
    obtain ⟨q1, is⟩ := A
    dsimp only at *
    subst h3
    rw [nA w1]
    have hR : ∀ y ∈ aR q1 o table, bm table y = true := m9
    refine ⟨fun y hy => ?_, ⟨x.c, List.mem_filter.2 ⟨pD hx hxo, ?_⟩, s1, s2, qL hmode⟩, h2, ?_⟩
    · obtain ⟨h4, h5⟩ := List.mem_filter.1 hy
      cases hr : bm table y
      · rfl
      · exfalso
        have hyr : y ∈ aR q1 o table := List.mem_filter.2 ⟨h4, hr⟩
        obtain ⟨e, he, heo, hec⟩ := iR h4
        have hs : RC.same y y = true := by rw [← hec]; exact (k1.sane.1 e he).1
        rw [Bool.not_eq_true', List.any_eq_false] at h5
        exact h5 y hyr hs
    · rw [Bool.not_eq_true', List.any_eq_false]
      intro y hy hs
      have h6 := hR y hy
      unfold bm at h6
      rw [Bool.and_eq_true, decide_eq_true_eq] at h6
      have := iL hs
      omega
    · have h7 := gn (p' := fun c => !(aR q1 o table).any (fun x => RC.same c x)) (p := fun c => !bm table c) (aE q1 o) (fun y hy hn => by
        obtain ⟨e, he, heo, hec⟩ := iR hy
        have hs : RC.same y y = true := by rw [← hec]; exact (k1.sane.1 e he).1
        rw [Bool.not_eq_true', List.any_eq_false] at hn
        cases hr : bm table y
        · rfl
        · exact absurd hs (hn y (List.mem_filter.2 ⟨hy, hr⟩)))
      have h8 := ll (bm table) (aE q1 o)
      have h9 : ((aE q1 o).filter (bm table)).length = (aR m.q o table).length := by rw [← hrow]; rfl
      rcases hview with ⟨hv, _⟩ | ⟨_, _, _, _, hv, _⟩
      · cases hv
      · rw [w2] at hlen
        omega
theorem rM {n : Nat} {m : LkM} (F : LkFine n m) {o : Int} (ho : 0 ≤ o ∧ o ≤ 7) (table many : Int) : LkFine (n + 1) (dG m o table many).1 := by
  unfold dG
  split
  · exact ⟨F.sc.mono (Nat.le_succ n), Nat.le_trans F.w (Nat.le_succ n), F.sound, F.why⟩
  · exact ⟨fJ (jN F.sc ho (jH table (eV _)) (lO _ _) false) _, Nat.le_trans (fb _ _ _) (Nat.le_trans (i5 _ _ _ _) (by have := F.w; omega)), eQ (iJ F.sound o (ir _ _) false) _, gG (l3 F.why o _ (by decide)) o _⟩
theorem LkFine.len {n : Nat} {m : LkM} (F : LkFine n m) : m.q.held.length + m.q.waits.length ≤ n := F.sc.len
theorem LkFine.sm {n : Nat} {m : LkM} (F : LkFine n m) (hn : n ≤ 1000) : ∀ e ∈ m.q.held, ClmSm 1000000 e.c := fun e he => (F.sc.all.1 e he).sm hn
end Go.Proofs.YtgljdkjepdknnaaGreatDoor
