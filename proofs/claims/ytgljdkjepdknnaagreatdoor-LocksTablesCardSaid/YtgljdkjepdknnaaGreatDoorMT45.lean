/- The document's locks: a table in the place of rows (ratlineref11.Locks.Escalate). (printed by genrk7.py) -/
import Derived.Test.YtgljdkjepdknnaaGreatDoorMT43
import Derived.Test.YtgljdkjepdknnaaGreatDoorMT44
set_option maxHeartbeats 64000000
namespace Go.Proofs.YtgljdkjepdknnaaGreatDoor
open Go.ChangeShapes Go.WideShapes Go.ChangeAt Go.RowKit
set_option maxRecDepth 100000
set_option linter.unusedSimpArgs false
theorem jR (w : World) (o : Int) (c : ClmE) : (Instr.build bY #[(0, .int .i64 o), (1, .agg c.cells.toArray), (2, .int .i64 3)]).run Tryz.prog w = .ok (.agg (aX ⟨o, c, 3, 0⟩).toArray) w := run_build w _ _ _ (by kernel_rfl)
theorem iF {w : World} {o : Oper} {a : Act} {ops : Array Oper} {rest : List Oper} {Q : Exit → Act → World → Prop} (hgd : o.guard = none) (xo xc xm : Operand) (ho : o.op = .build bY #[(0, xo), (1, xc), (2, xm)]) (ow : Int) (c : ClmE) (h1 : a.eval xo = .int .i64 ow) (h2 : a.eval xc = .agg c.cells.toArray) (h3 : a.eval xm = .int .i64 3)
  (h : wpList Tryz.prog ops Q rest (a.put o.dst (.agg (aX ⟨ow, c, 3, 0⟩).toArray)) w) : wpList Tryz.prog ops Q (o :: rest) a w :=
 wpList_plain hgd fun _ hK => by
  have hrun := jR w ow c
  unfold Oper.wp execOp
  simp only [ho, List.map_toArray, List.map_cons, List.map_nil, h1, h2, h3, Sem.run_bind, Sem.run_pure, Result.andThen_ok, hrun]
  exact hK _ _ h
theorem lY (table : Int) (x : ClmE) : bm table x.c = (decide (x.kind = 2) && decide (x.table = table)) := rfl
theorem eL (o : Int) : ∀ (rows : List Clm) (l : List Rea), (rows.foldl (fun m c => bw m o c) l).length ≤ l.length
 | [], _ => Nat.le_refl _
 | c :: rows, l => Nat.le_trans (eL o rows (bw l o c)) (ij l o c)
theorem kT (o : Int) {rows : List Clm} {k : Nat} {c : Clm} (h : rows[k]? = some c) (l : List Rea) : (rows.take (k + 1)).foldl (fun m c => bw m o c) l = bw ((rows.take k).foldl (fun m c => bw m o c) l) o c := by
 rw [List.take_add_one, h, List.foldl_append]
 rfl
theorem jH (table md : Int) : bS (eD table md).c := ⟨.mk _ _ _ _ [] (show (0 : Nat) ≤ maxLen from Nat.zero_le _) (show (0 : Nat) ≤ maxLen from Nat.zero_le _) (fun q hq => (by cases hq)), fun r hr => (by cases hr)⟩
theorem qB {q : Qm Clm} {o : Int} (c : Clm) (b : Bool) (h : (aS q o).2 = true) : (aV RC q o c b).2 = false := by
 rw [fL] at h
 unfold aV
 rw [h]
 rfl
theorem jD {d : DocM} {o table many : Int} (h : (aR d.q o table).length = 0 ∨ ((aR d.q o table).length : Int) ≤ many ∨ (aV RC d.q o (cM table (aR d.q o table)) false).2 = false) : gC d o table many = (d, false) := by unfold gC; rw [if_pos h]
theorem rI {d : DocM} {o table many : Int} (h1 : (aR d.q o table).length ≠ 0) (h2 : many < ((aR d.q o table).length : Int)) (h3 : (aV RC d.q o (cM table (aR d.q o table)) false).2 = true) : gC d o table many =
  (⟨d.ts, d.room, (a8 RC (aV RC d.q o (cM table (aR d.q o table)) false).1 (bT o (aR d.q o table))).1, (aR d.q o table).foldl (fun m c => bw m o c) d.r ++ [⟨o, cM table (aR d.q o table), 3, 0⟩]⟩, true) := by
 unfold gC
 rw [if_neg (fun h => by
  rcases h with h | h | h
  ·exact h1 h
  ·omega
  ·rw [h3] at h; cases h)]
def EscDGot (B : World) (D : PH) (l : List HP) (R : DocM × Bool) (r : Ending) (w' : World) : Prop := ∃ (v : Value) (D' : PH), r = .returned (.tuple #[v, .bool R.2]) ∧ PH.le D D' ∧ DocD D' v R.1 ∧ Sat B D' w' l
theorem ry {B w : World} {D : PH} {l : List HP} {v : Value} {d : DocM} (o table many : Int) (hd : DocD D v d) (hok : QOk d.q) (hqs : ∀ e ∈ d.q.held, ClmSm 1000000 e.c) (hM : d.r.length ≤ 999) (hQ : d.q.held.length + d.q.waits.length ≤ 999) (s : Sat B D w l) :
  Calls Tryz.prog 61 #[v, .int .i64 o, .int .i64 table, .int .i64 many] w (EscDGot B D l (gC d o table many)) := by
 obtain ⟨i0, hi, hz0, hz1, hz2⟩ := info_parts iC
 have HI := BO (And.intro hi (And.intro hz0 (And.intro hz1 hz2)))
 obtain ⟨i1, gi, gz0, gz1, gz2⟩ := info_parts kz
 have uY := BO (And.intro gi (And.intro gz0 (And.intro gz1 gz2)))
 obtain ⟨y0, y1, y2, y3, y4, rfl, h1⟩ := eW hd
 have H1 := BO h1
 have vj := BO (kB hd)
 obtain ⟨W1, hW1, hs1⟩ := cy s #[y0, y1, y2, y3, y4] cd aP aP
 have sR := BO hW1
 have ue := BO (gZ o (kB hd).q (by omega) hs1)
 obtain ⟨q0, q1, q2, q3, q4, qf⟩ := aZ (hs1.blk 0 rfl)
 have HD := BO hd
 have tJ := BO (And.intro hok (And.intro hqs (And.intro hM hQ)))
 obtain ⟨rr, hrr⟩ : ∃ rr, rr = gC d o table many := ⟨_, rfl⟩
 rw [← hrr]
 have tl := BO hrr
 clear hd s hs1 hW1 hok hqs hM hQ h1 hrr hi hz0 hz1 hz2 gi gz0 gz1 gz2
 go_enter Tryz.func61, Tryz.ntmps61
 go_upto_region 1 with fail
 rw [← sR.out]
 clear sR
 generalize w.heap.size + 1 = b2 at *
 generalize w.heap.size = b1 at *
 go_upto_region 2 with (go_at_call 34; refine ue.out.mono ?_; rintro e2 w2 ⟨hv2, cs, D2, rfl, hle2, hcs, hmap, hs2⟩; have tr := BO hle2; have ui := BO hcs; have yk := BO hmap; obtain ⟨ca, cc, rfl⟩ := hcs.1.shape; have sX := BO (hs2.alloc (eD table 3).cells.toArray tCl); clear hle2 hcs hmap hs2 ue q0 q1 q2 q3 q4 qf)
 obtain ⟨M, hM2⟩ : ∃ M, cs.length = M := ⟨_, rfl⟩
 have HM := BO hM2
 have hml : M ≤ 999 := by
  have h1 := congrArg List.length yk.out
  rw [List.length_map, hM2] at h1
  unfold aE at h1
  rw [List.length_map] at h1
  have h2 := List.length_filter_le (ofE o) d.q.held
  have h3 := tJ.out.2.2.2
  omega
 rw [hM2] at ui ⊢
 clear hM2
 go_upto_region 4 with (first | (refine fp rfl _ _ _ rfl table rfl rfl rfl ?_) | (refine ax rfl _ _ _ rfl (eD table 3).cells _ _ rfl rfl (by kernel_rfl) rfl (ClmE.one (eD table 3)) ?_))
 obtain ⟨W3, hW3, hs3⟩ := Sat.hide sX.out
 rw [← hW3]
 clear hW3 sX
 generalize w2.heap.size = bc at hs3 ⊢
 have sU := BO (show Sat B D2 W3 (dI (.slice none 0 0) [] :: _) from hs3.own_nil tCl 16)
 clear hs3
 go_wp2_with fail
 go_loopw [11, 13, 14] (fun nv rv ii wr => ∃ (k : Nat) (ga : Option Addr) (gc : Nat) (ds : List ClmE), nv = .int .i64 (ds.length : Int) ∧ rv = .slice ga ds.length gc ∧ ii = .int .i64 k ∧ k ≤ M ∧ ds = (cs.take k).filter (fun c => bm table c.c) ∧ Sat B D2 wr (dI (.slice ga ds.length gc) ds :: blk bc (eD table (eV (ds.map ClmE.c))).cells.toArray tCl :: blk b1 #[y0, y1, y2, y3, y4] aP :: blk b2 cd aP :: l)) (fun _ _ ii _ => M - (intOf ii).toNat)
 case atStart => exact ⟨0, none, 0, [], rfl, rfl, rfl, by omega, rfl, sU.out⟩
 case round =>
  obtain ⟨k, ga, gc, ds, rfl, rfl, rfl, hk, hds, hs4⟩ := hrel
  have hled : ds.length ≤ k := by rw [hds]; exact Nat.le_trans (List.length_filter_le _ _) (by rw [List.length_take]; omega)
  have wy := BO hds
  have sY := BO hs4
  clear hds hs4 sU
  by_cases hlt : k < M
  ·have hii : (k : Int) < (M : Int) := by omega
   obtain ⟨x, hx⟩ : ∃ x, cs[k]? = some x := ⟨cs[k]'(by rw [HM.out]; exact hlt), List.getElem?_eq_getElem _⟩
   have HX := BO hx
   clear hx
   obtain ⟨g, og, rfl, hrng⟩ := aD ClmE.len (by have := ui.out.1.rd sY.out; rw [HM.out] at this; exact this) HX.out HM.out
   have HL := BO (ay hrng)
   have x0 : wr.cell? ⟨g, og + k * 16, none⟩ = some (.int .i64 x.kind) := hrng 0 _ rfl
   have x1 : wr.cell? ⟨g, og + k * 16 + 1, none⟩ = some (.int .i64 x.table) := hrng 1 _ rfl
   clear hrng
   by_cases hk2 : x.kind = 2
   rotate_left
   ·have hne : (x.kind != 2) = true := by simpa using hk2
    have HT := BO (aQ (q := fun c : ClmE => bm table c.c) HX.out (by rw [lY]; simp [hk2]))
    clear hk2
    go_wp2_with fail
    go_roundw
    case rel => exact ⟨k + 1, ga, gc, ds, rfl, rfl, by go_num, by omega, by rw [HT.out]; exact wy.out, sY.out⟩
    case measure => simp [intOf]; omega
   by_cases ht2 : x.table = table
   rotate_left
   ·have hne : (x.kind != 2) = false := by simpa using hk2
    have hne2 : (x.table != table) = true := by simpa using ht2
    have HT := BO (aQ (q := fun c : ClmE => bm table c.c) HX.out (by rw [lY]; simp [ht2]))
    clear hk2 ht2
    go_wp2_with fail
    go_roundw
    case rel => exact ⟨k + 1, ga, gc, ds, rfl, rfl, by go_num, by omega, by rw [HT.out]; exact wy.out, sY.out⟩
    case measure => simp [intOf]; omega
   have hne : (x.kind != 2) = false := by simpa using hk2
   have hne2 : (x.table != table) = false := by simpa using ht2
   have HT := BO (aO (q := fun c : ClmE => bm table c.c) HX.out (by rw [lY]; simp [hk2, ht2]))
   have sV := BO ((sY.out.alloc x.cells.toArray tCl).front 1 rfl)
   have s5 := BO (aT (size := 16) (n := 1) (sV.out.blk 1 rfl) rfl (by unfold maxLen; omega))
   clear hk2 ht2 sY
   go_upto_region 10 with (first | (refine ag rfl _ _ rfl _ _ rfl _ HL.out ?_) | (refine aC rfl _ _ rfl tCl i1 _ x.cells rfl Tryz.underlying45 uY.out.1 uY.out.2.1 (uY.out.2.2.1.trans rfl) (by rw [ClmE.len]; decide) (by rw [ClmE.len]; decide) ?_) | (at_builtin; refine ar _ rfl _ _ tCs rfl tCl i1 _ 16 184 Tryz.underlying45 uY.out.1 uY.out.2.1 uY.out.2.2.1 uY.out.2.2.2 rfl _ ds.length _ rfl sV.out _ 1 _ rfl s5.out (by simpa using ClmE.one x) (by unfold maxLen; omega) (by omega) ?_; intro v14 w14 hs14 h14; obtain ⟨va, vc, rfl⟩ := hs14.own_shape; have s0 := BO hs14; clear hs14 h14 sV s5 HL))
   clear hne hne2 x0 x1
   obtain ⟨g', og', hg', hrng⟩ := aD ClmE.len (by have := ui.out.1.rd s0.out; rw [HM.out] at this; exact this) HX.out HM.out
   cases hg'
   have x2 : w14.cell? ⟨g, og + k * 16 + 2, none⟩ = some (.int .i64 x.mode) := hrng 2 _ rfl
   clear hrng
   by_cases h3 : x.mode = 3
   ·have yH := BO (show eV ((ds ++ [x]).map ClmE.c) = eV (ds.map ClmE.c) by rw [List.map_append]; exact sD (c := x.c) h3)
    rw [h3] at x2
    clear h3
    go_wp2_with fail
    go_roundw
    case rel =>
     refine ⟨k + 1, va, vc, ds ++ [x], by rw [List.length_append]; go_num, by rw [List.length_append]; rfl, by go_num, by omega, by rw [HT.out, wy.out], ?_⟩
     rw [yH.out]
     show Sat B D2 w14 (aJ tCl 16 (.slice va (ds ++ [x]).length vc) (ds ++ [x]).length ((ds ++ [x]).flatMap ClmE.cells) :: _)
     rw [List.length_append, List.flatMap_append]
     have h9 := (s0.out.front 1 rfl).drop
     simpa using h9
    case measure => simp [intOf]; omega
   ·have yH := BO (show eV ((ds ++ [x]).map ClmE.c) = 6 by rw [List.map_append]; exact sG (c := x.c) h3)
    have h3' : (x.mode != 3) = true := by simpa using h3
    have yy2 := (aW (s0.out.blk 2 rfl)).1
    have yf := frz (s0.out.blk 2 rfl)
    have td := BO (Sat.setMd (s0.out.front 2 rfl))
    clear h3 s0
    go_wp2_with fail
    go_roundw
    case rel =>
     refine ⟨k + 1, va, vc, ds ++ [x], by rw [List.length_append]; go_num, by rw [List.length_append]; rfl, by go_num, by omega, by rw [HT.out, wy.out], ?_⟩
     rw [yH.out]
     show Sat B D2 _ (aJ tCl 16 (.slice va (ds ++ [x]).length vc) (ds ++ [x]).length ((ds ++ [x]).flatMap ClmE.cells) :: _)
     rw [List.length_append, List.flatMap_append]
     have h9 := ((td.out.front 2 rfl).drop).front 1 rfl
     simpa using h9
    case measure => simp [intOf]; omega
  ·have hii : ¬ ((k : Int) < (M : Int)) := by omega
   have HT := BO (show ds = cs.filter (fun c => bm table c.c) by rw [wy.out, List.take_of_length_le (by rw [HM.out]; omega)])
   obtain ⟨D4, hle4, hcd, hs5⟩ := iK sY.out (fun c hc => by rw [HT.out] at hc; exact ui.out.2 c (List.mem_filter.1 hc).1)
   have hmap2 : ds.map ClmE.c = aR d.q o table := by rw [HT.out]; unfold aR; rw [← yk.out, List.filter_map]; rfl
   obtain ⟨R, hR⟩ : ∃ R, aR d.q o table = R := ⟨_, rfl⟩
   rw [hR] at hmap2
   rw [hmap2] at hs5
   have zG := BO hR
   have yI := BO hmap2
   have uf := BO (tr.out.trans hle4)
   have Az := BO hcd
   have uJ := BO (eM o (vj.out.q.mono uf.out) hs5)
   have zI := BO (show (aR d.q o table).length = ds.length by rw [hR, ← hmap2, List.length_map])
   obtain ⟨q0, q1, q2, q3, q4, qf⟩ := aZ (hs5.blk 1 rfl)
   clear hle4 hcd hs5 hmap2 hR sY yk
   go_upto_region 14 with (first | (go_at_call 32; refine uJ.out.mono ?_; rintro e4 w4 ⟨z, rfl, hzc, hzo, _, hs6⟩; have s0 := BO (hs6.alloc z.cells.toArray tCl); clear hzc hzo hs6 uJ q0 q1 q2 q3 q4 qf) | (refine ax rfl _ _ _ rfl z.cells _ _ rfl rfl (by kernel_rfl) rfl (ClmE.one z) ?_))
   obtain ⟨W6, hW6, hs6⟩ := Sat.hide s0.out
   rw [← hW6]
   have s0 := BO hs6.drop
   clear hW6 hs6 hii
   obtain ⟨wb, hwb⟩ : ∃ wb, (aS d.q o).2 = wb := ⟨_, rfl⟩
   rw [hwb]
   have BF := BO hwb
   clear hwb
   obtain ⟨nn, hnn⟩ : ∃ nn, ds.length = nn := ⟨_, rfl⟩
   rw [hnn] at hled zI Az ⊢
   have wn := BO hnn
   have hn9 : nn ≤ 999 := by omega
   clear hnn
   by_cases hmn : (nn : Int) ≤ many
   ·have HR := BO (show rr = (d, false) by rw [tl.out]; exact jD (.inr (.inl (by rw [zI.out]; exact hmn))))
    have sU := BO (s0.out.front 2 rfl)
    have tm := BO (aF (sU.out.blk 2 rfl))
    clear tl
    go_wp2_with (first | (refine ag rfl _ _ rfl _ _ rfl [_, _, _, _, _] tm.out ?_) | (refine aq rfl _ _ _ rfl aP b2 rfl [y0, y1, y2, y3, y4] rfl cd sU.out (by kernel_rfl) rfl H1.out ?_; intro w9 hs9; have ti := BO hs9; clear hs9 sU))
    refine bodyPost_ret (aL rfl _ _ rfl (aF (ti.out.blk 0 rfl))) rfl ?_
    rw [HR.out]
    exact ⟨_, _, rfl, uf.out, HD.out.mono uf.out, ti.out.drop.drop.drop⟩
   by_cases h0 : nn = 0
   ·subst h0
    have HR := BO (show rr = (d, false) by rw [tl.out]; exact jD (.inl zI.out))
    have sU := BO (s0.out.front 2 rfl)
    have tm := BO (aF (sU.out.blk 2 rfl))
    clear tl
    go_wp2_with (first | (refine ag rfl _ _ rfl _ _ rfl [_, _, _, _, _] tm.out ?_) | (refine aq rfl _ _ _ rfl aP b2 rfl [y0, y1, y2, y3, y4] rfl cd sU.out (by kernel_rfl) rfl H1.out ?_; intro w9 hs9; have ti := BO hs9; clear hs9 sU))
    refine bodyPost_ret (aL rfl _ _ rfl (aF (ti.out.blk 0 rfl))) rfl ?_
    rw [HR.out]
    exact ⟨_, _, rfl, uf.out, HD.out.mono uf.out, ti.out.drop.drop.drop⟩
   have h0' : ((nn : Int) == 0) = false := by simp; omega
   cases wb
   rotate_left
   ·have HR := BO (show rr = (d, false) by rw [tl.out]; exact jD (.inr (.inr (qB _ _ BF.out))))
    have sU := BO (s0.out.front 2 rfl)
    have tm := BO (aF (sU.out.blk 2 rfl))
    clear tl
    go_wp2_with (first | (refine ag rfl _ _ rfl _ _ rfl [_, _, _, _, _] tm.out ?_) | (refine aq rfl _ _ _ rfl aP b2 rfl [y0, y1, y2, y3, y4] rfl cd sU.out (by kernel_rfl) rfl H1.out ?_; intro w9 hs9; have ti := BO hs9; clear hs9 sU))
    refine bodyPost_ret (aL rfl _ _ rfl (aF (ti.out.blk 0 rfl))) rfl ?_
    rw [HR.out]
    exact ⟨_, _, rfl, uf.out, HD.out.mono uf.out, ti.out.drop.drop.drop⟩
   go_upto_region 16 with fail
   clear h0' hled
   have Bc := BO (And.intro h0 hmn)
   clear h0 hmn
   have tg := BO (ay (ai (s0.out.blk 0 rfl)))
   have xK := BO (kq o (eD table (eV R)) true tJ.out.1 (vj.out.q.mono uf.out) (jx D4 _ _) (jH _ _) (pu _ _ _) tJ.out.2.1 (by have := tJ.out.2.2.2; omega) (by have := tJ.out.2.2.2; omega) s0.out)
   rw [oC, show (!true) = false from rfl] at xK
   obtain ⟨Q1, is, hask⟩ : ∃ Q1 is, aV RC d.q o (cM table R) false = (Q1, is) := ⟨_, _, rfl⟩
   rw [hask] at xK
   have tk := BO hask
   have vO := BO (show Q1.held.length + Q1.waits.length ≤ 1000 by have h1 := jG (R := RC) d.q o (cM table R) false; rw [hask] at h1; have h2 := tJ.out.2.2.2; dsimp only at h1; omega)
   obtain ⟨q0, q1, q2, q3, q4, qf⟩ := aZ (s0.out.blk 1 rfl)
   clear hask
   go_upto_region 17 with (first | (refine ag rfl _ _ rfl _ _ rfl _ tg.out ?_) | (go_at_call 102; refine xK.out.mono ?_; rintro ea wa ⟨v7, D7, rfl, hle7, hq7, hs7⟩; obtain ⟨hv7, wv7, rfl, o7, p7⟩ := kS hq7; have tq := BO (uf.out.trans hle7); have yo := BO hle7; have wg := BO hq7; have tQ := BO (And.intro o7 p7); have td := BO (hs7.alloc #[hv7, wv7] tRq); clear hle7 hq7 o7 p7 hs7 xK s0 tg q0 q1 q2 q3 q4 qf) | (refine ax rfl _ _ _ rfl [hv7, wv7] _ _ rfl rfl (by kernel_rfl) rfl (by intro u hu; simp at hu; rcases hu with rfl | rfl; exact tQ.out.1; exact tQ.out.2) ?_))
   obtain ⟨Wb, hWb, hsb⟩ := Sat.hide td.out
   rw [← hWb]
   clear hWb td
   generalize wa.heap.size = bq at hsb ⊢
   have ux := BO hsb
   clear hsb
   cases is
   ·have HR := BO (show rr = (d, false) by rw [tl.out]; exact jD (.inr (.inr (by rw [zG.out, tk.out]))))
    have sU := BO (ux.out.front 3 rfl)
    have tm := BO (aF (sU.out.blk 3 rfl))
    clear tl
    go_wp2_with (first | (refine ag rfl _ _ rfl _ _ rfl [_, _, _, _, _] tm.out ?_) | (refine aq rfl _ _ _ rfl aP b2 rfl [y0, y1, y2, y3, y4] rfl cd sU.out (by kernel_rfl) rfl H1.out ?_; intro w9 hs9; have ti := BO hs9; clear hs9 sU))
    refine bodyPost_ret (aL rfl _ _ rfl (aF (ti.out.blk 0 rfl))) rfl ?_
    rw [HR.out]
    exact ⟨_, _, rfl, tq.out, HD.out.mono tq.out, ti.out.drop.drop.drop.drop⟩
   have tL := BO (bi (ai (cs := [hv7, wv7]) (ux.out.blk 0 rfl)))
   have wt := BO (ux.out.front 2 rfl)
   clear ux
   go_upto_region 20 with (first | (refine ag rfl _ _ rfl _ _ rfl [_, _] tL.out ?_) | (refine bd rfl _ _ _ rfl aP b1 2 rfl [hv7, wv7] rfl [y0, y1, y2, y3, y4] wt.out (by kernel_rfl) (by simp) (by intro u hu; simp at hu; rcases hu with rfl | rfl; exact tQ.out.1; exact tQ.out.2) ?_; intro wc hsc; have uL := BO (show Sat B D7 wc (blk b1 #[y0, y1, hv7, wv7, y4] aP :: _) from hsc); clear hsc wt tL))
   have tj := BO (show Sat B D7 wc (blk b1 #[y0, y1, hv7, wv7, y4] aP :: blk bc (eD table (eV R)).cells.toArray tCl :: blk b2 cd aP :: l) from by
    have h := (uL.out.front 1 rfl).drop
    exact h)
   clear uL
   have zJ := BO (show DocD D7 (.agg #[y0, y1, hv7, wv7, y4]) ⟨d.ts, d.room, Q1, d.r⟩ from DocW.d ⟨vj.out.t.mono tq.out, vj.out.m, wg.out, by obtain ⟨es, h1, h2⟩ := vj.out.r; exact ⟨es, h1.mono tq.out, h2⟩⟩)
   go_wp2_with fail
   go_loopw [19] (fun ii wr => ∃ (k : Nat) (D8 : PH) (z0 z1 z2 z3 z4 : Value), ii = .int .i64 k ∧ k ≤ nn ∧ PH.le D7 D8 ∧ DocD D8 (.agg #[z0, z1, z2, z3, z4]) ⟨d.ts, d.room, Q1, (R.take k).foldl (fun m c => bw m o c) d.r⟩ ∧ Sat B D8 wr (blk b1 #[z0, z1, z2, z3, z4] aP :: blk bc (eD table (eV R)).cells.toArray tCl :: blk b2 cd aP :: l)) (fun ii _ => nn - (intOf ii).toNat)
   case atStart => exact ⟨0, D7, _, _, _, _, _, rfl, by omega, PH.le.refl _, zJ.out, tj.out⟩
   case round =>
    obtain ⟨k, D8, z0, z1, z2, z3, z4, rfl, hk8, hle8, hd8, hs8⟩ := hrel
    have vJ := BO hle8
    have AA := BO hd8
    have ti := BO hs8
    clear hle8 hd8 hs8 tj zJ
    by_cases hlt8 : k < nn
    ·have hii8 : (k : Int) < (nn : Int) := by omega
     obtain ⟨x, hx⟩ : ∃ x, ds[k]? = some x := ⟨ds[k]'(by rw [wn.out]; exact hlt8), List.getElem?_eq_getElem _⟩
     have hxr : R[k]? = some x.c := by rw [← yI.out, List.getElem?_map, hx]; rfl
     have uk := BO (kT o hxr d.r)
     obtain ⟨g, og, hg, hrng, hxo⟩ := clmAt (Az.out.mono (yo.out.trans vJ.out)) ti.out.drew wn.out hx
     subst hg
     have th := BO (ay (w := wr.drew) hrng)
     have tm := BO (aF (w := wr.drew) (ti.out.drew.blk 0 rfl))
     have wE := BO (jn o x AA.out hxo (Nat.le_trans (eL o (R.take k) d.r) (Nat.le_trans tJ.out.2.2.1 (by decide))) ti.out.drew)
     clear hx hxr hrng hxo ti
     go_upto_region 23 with fail
     refine af [(0, false, 6), (1, false, 6), (2, false, 6), (3, false, 6), (4, false, 6), (5, false, 6), (6, true, 0), (7, true, 0)] (by kernel_rfl) (by kernel_rfl) ?_
     iterate 6 (refine ae rfl rfl (fun K hK => ?_); (first | ((refine aj _ _ rfl _ _ rfl _ th.out ?_); go_simp) | ((refine aj _ _ rfl _ _ rfl [_,_,_,_,_] tm.out ?_); go_simp) | go_simp); refine hK _ ?_; clear hK K)
     refine al rfl ?_
     refine aw rfl (fun K hK => ?_)
     go_simp
     refine wE.out.mono ?_
     rintro e12 w12 ⟨v12, D12, rfl, hle12, hd12, hs12⟩
     obtain ⟨u0, u1, u2, u3, u4, rfl, hu⟩ := eW hd12
     have vK := BO hle12
     have AB := BO hd12
     have HU := BO hu
     have tT := BO hs12
     clear hle12 hd12 hs12 hu wE th tm
     refine hK _ _ ?_
     clear hK K
     refine wpList_nil ?_
     refine And.intro ?_ ?_
     ·go_simp
     refine al rfl ?_
     refine aq rfl _ _ _ rfl aP b1 rfl [u0, u1, u2, u3, u4] rfl #[z0, z1, z2, z3, z4] tT.out (by kernel_rfl) rfl HU.out ?_
     intro w13 hs13
     have tH := BO hs13
     clear hs13 tT
     refine wpList_nil ?_
     refine And.intro ?_ ?_
     ·go_simp
     refine ap ?_
     go_wp2_with fail
     go_roundw
     case rel => exact ⟨k + 1, D12, u0, u1, u2, u3, u4, by go_num, by omega, vJ.out.trans vK.out, by rw [uk.out]; exact AB.out, tH.out⟩
     case measure => simp [intOf]; omega
    ·have hii8 : ¬ ((k : Int) < (nn : Int)) := by omega
     obtain rfl : k = nn := by omega
     have hall : R.take k = R := List.take_of_length_le (by rw [← yI.out, List.length_map, wn.out]; omega)
     rw [hall] at AA
     clear hall
     have xz := BO (kB AA.out)
     go_upto_region 25 with fail
     clear hii8 hk8
     obtain ⟨es, hr, hrr⟩ := xz.out.r
     have hel : es.length ≤ 999 := by
      have h1 := eL o R d.r
      have h2 := tJ.out.2.2.1
      have h3 := congrArg List.length hrr
      rw [List.length_map] at h3
      dsimp only at h3
      omega
     have wL := BO hrr
     have zD := BO hr.2
     have uL := BO (ti.out.own_nil bY 19)
     have s5 := BO (hr.1.rd uL.out)
     have xy := BO (iM es)
     obtain ⟨q0, q1, q2, q3, q4, qf⟩ := aZ (uL.out.blk 1 rfl)
     clear hr hrr ti
     generalize hNE : es.length = NE at *
     have uU := BO hNE
     clear hNE
     go_upto_region 26 with (at_builtin; refine ar _ rfl _ _ fy rfl bY i0 _ 19 208 Tryz.underlying59 HI.out.1 HI.out.2.1 HI.out.2.2.1 HI.out.2.2.2 rfl _ 0 _ rfl uL.out _ NE _ rfl s5.out xy.out (by unfold maxLen; omega) (by omega) ?_; intro v13 w13 hs13 h13; have tH := BO hs13; clear hs13 h13 uL s5 q0 q1 q2 q3 q4 qf)
     have ub := BO (show Sat B D8 w13 (aJ bY 19 v13 NE (es.flatMap aX) :: _) from by have h := tH.out; rw [Nat.zero_add, List.nil_append] at h; exact h)
     obtain ⟨e, he⟩ : ∃ e : ReaE, e = ⟨o, eD table (eV R), 3, 0⟩ := ⟨_, rfl⟩
     have HE := BO he
     have tg := BO (ay (ai (ub.out.blk 2 rfl)))
     have tP := BO ((ub.out.alloc (aX e).toArray bY).front 1 rfl)
     have s5 := BO (aT (size := 19) (n := 1) (tP.out.blk 1 rfl) (by simp [dg]) (by unfold maxLen; omega))
     clear tH ub he
     go_upto_region 27 with (first | (refine ag rfl _ _ rfl _ _ rfl _ tg.out ?_) | (refine iF rfl _ _ _ rfl o (eD table (eV R)) rfl rfl rfl ?_; rw [← HE.out]) | (refine aC rfl _ _ rfl bY i0 _ (aX e) rfl Tryz.underlying59 HI.out.1 HI.out.2.1 (HI.out.2.2.1.trans rfl) (by rw [dg]; decide) (by rw [dg]; decide) ?_) | (at_builtin; refine ar _ rfl _ _ fy rfl bY i0 _ 19 208 Tryz.underlying59 HI.out.1 HI.out.2.1 HI.out.2.2.1 HI.out.2.2.2 rfl _ NE _ rfl tP.out _ 1 _ rfl s5.out (by simpa using ju e) (by unfold maxLen; omega) (by omega) ?_; intro v16 w16 hs16 h16; have tS := BO hs16; clear hs16 h16 tP s5 tg))
     obtain ⟨va, vc, rfl⟩ := tS.out.own_shape
     have tM := BO (show Sat B D8 w16 (blk b1 #[z0, z1, z2, z3, z4] aP :: gS (.slice va (NE + 1) vc) (es ++ [e]) :: blk bc (eD table (eV R)).cells.toArray tCl :: blk b2 cd aP :: l) from by
      show Sat B D8 w16 (_ :: aJ bY 19 (.slice va (NE + 1) vc) (es ++ [e]).length ((es ++ [e]).flatMap aX) :: _)
      rw [List.length_append, List.flatMap_append, uU.out]
      have h := ((tS.out.front 1 rfl).drop).front 1 rfl
      simpa using h)
     have vg := BO (Sat.set5e tM.out (.slice va (NE + 1) vc))
     obtain ⟨q0, q1, q2, q3, q4, qf⟩ := aZ (tM.out.blk 0 rfl)
     go_upto_region 28 with fail
     obtain ⟨Wd, hWd, hsd⟩ := Sat.hide vg.out
     rw [← hWd]
     clear hWd vg tM tS q0 q1 q2 q3 q4 qf
     obtain ⟨D9, hle9, hE9, hs19⟩ := eO (hsd.front 1 rfl) (fun x hx => by
      rcases List.mem_append.1 hx with hx | hx
      ·exact zD.out x hx
      ·rw [List.mem_singleton] at hx
       rw [hx, HE.out]
       exact jx D8 _ _)
     have AC := BO (lB o (xz.out.q.mono hle9) (Az.out.mono ((yo.out.trans vJ.out).trans hle9)) vO.out hs19)
     rw [yI.out] at AC
     obtain ⟨q0, q1, q2, q3, q4, qf⟩ := aZ (hs19.blk 0 rfl)
     have uB := BO hle9
     have BG := BO hE9
     clear hsd hs19 hle9 hE9
     go_upto_region 29 with (first | (go_at_call 103; refine AC.out.mono ?_; rintro e20 w20 ⟨v20, iv, D20, rfl, hle20, hq20, hs20⟩; obtain ⟨hv20, wv20, rfl, o20, p20⟩ := kS hq20; obtain ⟨ia, ic, rfl⟩ := hs20.own_shape; have xA := BO hle20; have AD := BO hq20; have wG := BO (And.intro o20 p20); have te := BO (hs20.drop.alloc #[hv20, wv20] tRq); clear hle20 hq20 o20 p20 hs20 AC q0 q1 q2 q3 q4 qf) | (refine ax rfl _ _ _ rfl [hv20, wv20] _ _ rfl rfl (by kernel_rfl) rfl (by intro u hu; simp at hu; rcases hu with rfl | rfl; exact wG.out.1; exact wG.out.2) ?_))
     obtain ⟨We, hWe, hse⟩ := Sat.hide te.out
     rw [← hWe]
     clear hWe te
     generalize w20.heap.size = bp at hse ⊢
     have tL := BO (bi (ai (cs := [hv20, wv20]) (hse.blk 0 rfl)))
     have zW := BO (hse.front 1 rfl)
     clear hse
     go_upto_region 30 with (first | (refine ag rfl _ _ rfl _ _ rfl [_, _] tL.out ?_) | (refine bd rfl _ _ _ rfl aP b1 2 rfl [hv20, wv20] rfl [z0, z1, z2, z3, .slice va (NE + 1) vc] zW.out (by kernel_rfl) (by simp) (by intro u hu; simp at hu; rcases hu with rfl | rfl; exact wG.out.1; exact wG.out.2) ?_; intro w21 hs21; have vA := BO (show Sat B D20 w21 (blk b1 #[z0, z1, hv20, wv20, .slice va (NE + 1) vc] aP :: _) from hs21); clear hs21 zW tL))
     have tm := BO (aF (vA.out.blk 0 rfl))
     have vN := BO (vA.out.front 3 rfl)
     clear vA
     go_wp2_with (first | (refine ag rfl _ _ rfl _ _ rfl [_, _, _, _, _] tm.out ?_) | (refine aq rfl _ _ _ rfl aP b2 rfl [z0, z1, hv20, wv20, .slice va (NE + 1) vc] rfl cd vN.out (by kernel_rfl) rfl (by intro u hu; simp at hu; rcases hu with rfl | rfl | rfl | rfl | rfl; exact xz.out.ones.1; exact xz.out.ones.2.1; exact wG.out.1; exact wG.out.2; rfl) ?_; intro w23 hs23; have zK := BO hs23; clear hs23 vN))
     refine bodyPost_ret (aL rfl _ _ rfl (aF (zK.out.blk 0 rfl))) rfl ?_
     have hyes := rI (d := d) (o := o) (table := table) (many := many) (by rw [zI.out]; exact Bc.out.1) (by rw [zI.out]; have := Bc.out.2; omega) (by rw [zG.out, tk.out])
     rw [zG.out, tk.out] at hyes
     rw [tl.out, hyes]
     have hw9 := (xz.out.mono uB.out).mono xA.out
     refine ⟨_, D20, rfl, ((tq.out.trans vJ.out).trans uB.out).trans xA.out, DocW.d ⟨hw9.t, hw9.m, AD.out, ⟨es ++ [e], BG.out.mono xA.out, ?_⟩⟩, zK.out.drop.drop.drop.drop⟩
     rw [List.map_append, wL.out, HE.out]
     rfl
end Go.Proofs.YtgljdkjepdknnaaGreatDoor
