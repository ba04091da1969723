/- The document's locks: a table in the place of rows (ratlineref11.Locks.Escalate). (printed by genrk7.py) -/
import Derived.Test.YtgljdkjepdknnaaGreatDoorML43
import Derived.Test.YtgljdkjepdknnaaGreatDoorML44
set_option maxHeartbeats 64000000
namespace Go.Proofs.YtgljdkjepdknnaaGreatDoor
open Go.ChangeShapes Go.WideShapes Go.ChangeAt Go.RowKit
set_option maxRecDepth 100000
set_option linter.unusedSimpArgs false
theorem lu (w : World) (o : Int) (c : ClmE) : (Instr.build ct #[(0, .int .i64 o), (1, .agg c.cells.toArray), (2, .int .i64 3)]).run Tryz.prog w = .ok (.agg (aZ ⟨o, c, 3, 0⟩).toArray) w := run_build w _ _ _ (by kernel_rfl)
theorem ju {w : World} {o : Oper} {a : Act} {ops : Array Oper} {rest : List Oper} {Q : Exit → Act → World → Prop} (hgd : o.guard = none) (xo xc xm : Operand) (ho : o.op = .build ct #[(0, xo), (1, xc), (2, xm)]) (ow : Int) (c : ClmE) (h1 : a.eval xo = .int .i64 ow) (h2 : a.eval xc = .agg c.cells.toArray) (h3 : a.eval xm = .int .i64 3)
  (h : wpList Tryz.prog ops Q rest (a.put o.dst (.agg (aZ ⟨ow, c, 3, 0⟩).toArray)) w) : wpList Tryz.prog ops Q (o :: rest) a w :=
 wpList_plain hgd fun _ hK => by
  have hrun := lu w ow c
  unfold Oper.wp execOp
  simp only [ho, List.map_toArray, List.map_cons, List.map_nil, h1, h2, h3, Sem.run_bind, Sem.run_pure, Result.andThen_ok, hrun]
  exact hK _ _ h
theorem nr (table : Int) (x : ClmE) : bY table x.c = (decide (x.kind = 2) && decide (x.table = table)) := rfl
theorem fm (o : Int) : ∀ (rows : List Clm) (l : List Rea), (rows.foldl (fun m c => bL m o c) l).length ≤ l.length
 | [], _ => Nat.le_refl _
 | c :: rows, l => Nat.le_trans (fm o rows (bL l o c)) (jn l o c)
theorem mf (o : Int) {rows : List Clm} {k : Nat} {c : Clm} (h : rows[k]? = some c) (l : List Rea) : (rows.take (k + 1)).foldl (fun m c => bL m o c) l = bL ((rows.take k).foldl (fun m c => bL m o c) l) o c := by
 rw [List.take_add_one, h, List.foldl_append]
 rfl
theorem nz (table md : Int) : bV (fa table md).c := ⟨.mk _ _ _ _ [] (show (0 : Nat) ≤ maxLen from Nat.zero_le _) (show (0 : Nat) ≤ maxLen from Nat.zero_le _) (fun q hq => (by cases hq)), fun r hr => (by cases hr)⟩
theorem sD {q : Qm Clm} {o : Int} (c : Clm) (b : Bool) (h : (aP q o).2 = true) : (bj RC q o c b).2 = false := by
 rw [eH] at h
 unfold bj
 rw [h]
 rfl
theorem kL {d : DocM} {o table many : Int} (h : (bB d.q o table).length = 0 ∨ ((bB d.q o table).length : Int) ≤ many ∨ (bj RC d.q o (dB table (bB d.q o table)) false).2 = false) : hO d o table many = (d, false) := by unfold hO; rw [if_pos h]
theorem tK {d : DocM} {o table many : Int} (h1 : (bB d.q o table).length ≠ 0) (h2 : many < ((bB d.q o table).length : Int)) (h3 : (bj RC d.q o (dB table (bB d.q o table)) false).2 = true) : hO d o table many =
  (⟨d.ts, d.room, (aY RC (bj RC d.q o (dB table (bB d.q o table)) false).1 (cq o (bB d.q o table))).1, (bB d.q o table).foldl (fun m c => bL m o c) d.r ++ [⟨o, dB table (bB d.q o table), 3, 0⟩]⟩, true) := by
 unfold hO
 rw [if_neg (fun h => by
  rcases h with h | h | h
  ·exact h1 h
  ·omega
  ·rw [h3] at h; cases h)]
def EscDGot (B : World) (D : PH) (l : List HP) (R : DocM × Bool) (r : Ending) (w' : World) : Prop := ∃ (v : Value) (D' : PH), r = .returned (.tuple #[v, .bool R.2]) ∧ PH.le D D' ∧ DocD D' v R.1 ∧ Sat B D' w' l
theorem tZ {B w : World} {D : PH} {l : List HP} {v : Value} {d : DocM} (o table many : Int) (hd : DocD D v d) (hok : QOk d.q) (hqs : ∀ e ∈ d.q.held, ClmSm 1000000 e.c) (hM : d.r.length ≤ 999) (hQ : d.q.held.length + d.q.waits.length ≤ 999) (s : Sat B D w l) :
  Calls Tryz.prog 61 #[v, .int .i64 o, .int .i64 table, .int .i64 many] w (EscDGot B D l (hO d o table many)) := by
 obtain ⟨i0, hi, hz0, hz1, hz2⟩ := info_parts i9
 have HI := Eh (And.intro hi (And.intro hz0 (And.intro hz1 hz2)))
 obtain ⟨i1, gi, gz0, gz1, gz2⟩ := info_parts lI
 have xK := Eh (And.intro gi (And.intro gz0 (And.intro gz1 gz2)))
 obtain ⟨y0, y1, y2, y3, y4, rfl, h1⟩ := eY hd
 have H1 := Eh h1
 have xz := Eh (kt hd)
 obtain ⟨W1, hW1, hs1⟩ := cG s #[y0, y1, y2, y3, y4] cp aQ aQ
 have uW := Eh hW1
 have wH := Eh (gI o (kt hd).q (by omega) hs1)
 obtain ⟨q0, q1, q2, q3, q4, qf⟩ := aT (hs1.blk 0 rfl)
 have HD := Eh hd
 have vP := Eh (And.intro hok (And.intro hqs (And.intro hM hQ)))
 obtain ⟨rr, hrr⟩ : ∃ rr, rr = hO d o table many := ⟨_, rfl⟩
 rw [← hrr]
 have vA := Eh hrr
 clear hd s hs1 hW1 hok hqs hM hQ h1 hrr hi hz0 hz1 hz2 gi gz0 gz1 gz2
 go_enter Tryz.func61, Tryz.ntmps61
 go_upto_region 1 with fail
 rw [← uW.out]
 clear uW
 generalize w.heap.size + 1 = b2 at *
 generalize w.heap.size = b1 at *
 go_upto_region 2 with (go_at_call 34; refine wH.out.mono ?_; rintro e2 w2 ⟨hv2, cs, D2, rfl, hle2, hcs, hmap, hs2⟩; have vv := Eh hle2; have wE := Eh hcs; have AG := Eh hmap; obtain ⟨ca, cc, rfl⟩ := hcs.1.shape; have vg := Eh (hs2.alloc (fa table 3).cells.toArray tCl); clear hle2 hcs hmap hs2 wH q0 q1 q2 q3 q4 qf)
 obtain ⟨M, hM2⟩ : ∃ M, cs.length = M := ⟨_, rfl⟩
 have HM := Eh hM2
 have hml : M ≤ 999 := by
  have h1 := congrArg List.length AG.out
  rw [List.length_map, hM2] at h1
  unfold aN at h1
  rw [List.length_map] at h1
  have h2 := List.length_filter_le (ofE o) d.q.held
  have h3 := vP.out.2.2.2
  omega
 rw [hM2] at wE ⊢
 clear hM2
 go_upto_region 4 with (first | (refine fW rfl _ _ _ rfl table rfl rfl rfl ?_) | (refine ax rfl _ _ _ rfl (fa table 3).cells _ _ rfl rfl (by kernel_rfl) rfl (ClmE.one (fa table 3)) ?_))
 obtain ⟨W3, hW3, hs3⟩ := Sat.hide vg.out
 rw [← hW3]
 clear hW3 vg
 generalize w2.heap.size = bc at hs3 ⊢
 have uY := Eh (show Sat B D2 W3 (gx (.slice none 0 0) [] :: _) from hs3.own_nil tCl 16)
 clear hs3
 go_wp2_with fail
 go_loopw [11, 13, 14] (fun nv rv ii wr => ∃ (k : Nat) (ga : Option Addr) (gc : Nat) (ds : List ClmE), nv = .int .i64 (ds.length : Int) ∧ rv = .slice ga ds.length gc ∧ ii = .int .i64 k ∧ k ≤ M ∧ ds = (cs.take k).filter (fun c => bY table c.c) ∧ Sat B D2 wr (gx (.slice ga ds.length gc) ds :: blk bc (fa table (fA (ds.map ClmE.c))).cells.toArray tCl :: blk b1 #[y0, y1, y2, y3, y4] aQ :: blk b2 cp aQ :: l)) (fun _ _ ii _ => M - (intOf ii).toNat)
 case atStart => exact ⟨0, none, 0, [], rfl, rfl, rfl, by omega, rfl, uY.out⟩
 case round =>
  obtain ⟨k, ga, gc, ds, rfl, rfl, rfl, hk, hds, hs4⟩ := hrel
  have hled : ds.length ≤ k := by rw [hds]; exact Nat.le_trans (List.length_filter_le _ _) (by rw [List.length_take]; omega)
  have yX := Eh hds
  have vh := Eh hs4
  clear hds hs4 uY
  by_cases hlt : k < M
  ·have hii : (k : Int) < (M : Int) := by omega
   obtain ⟨x, hx⟩ : ∃ x, cs[k]? = some x := ⟨cs[k]'(by rw [HM.out]; exact hlt), List.getElem?_eq_getElem _⟩
   have HX := Eh hx
   clear hx
   obtain ⟨g, og, rfl, hrng⟩ := aF ClmE.len (by have := wE.out.1.rd vh.out; rw [HM.out] at this; exact this) HX.out HM.out
   have HL := Eh (az hrng)
   have x0 : wr.cell? ⟨g, og + k * 16, none⟩ = some (.int .i64 x.kind) := hrng 0 _ rfl
   have x1 : wr.cell? ⟨g, og + k * 16 + 1, none⟩ = some (.int .i64 x.table) := hrng 1 _ rfl
   clear hrng
   by_cases hk2 : x.kind = 2
   rotate_left
   ·have hne : (x.kind != 2) = true := by simpa using hk2
    have HT := Eh (aW (q := fun c : ClmE => bY table c.c) HX.out (by rw [nr]; simp [hk2]))
    clear hk2
    go_wp2_with fail
    go_roundw
    case rel => exact ⟨k + 1, ga, gc, ds, rfl, rfl, by go_num, by omega, by rw [HT.out]; exact yX.out, vh.out⟩
    case measure => simp [intOf]; omega
   by_cases ht2 : x.table = table
   rotate_left
   ·have hne : (x.kind != 2) = false := by simpa using hk2
    have hne2 : (x.table != table) = true := by simpa using ht2
    have HT := Eh (aW (q := fun c : ClmE => bY table c.c) HX.out (by rw [nr]; simp [ht2]))
    clear hk2 ht2
    go_wp2_with fail
    go_roundw
    case rel => exact ⟨k + 1, ga, gc, ds, rfl, rfl, by go_num, by omega, by rw [HT.out]; exact yX.out, vh.out⟩
    case measure => simp [intOf]; omega
   have hne : (x.kind != 2) = false := by simpa using hk2
   have hne2 : (x.table != table) = false := by simpa using ht2
   have HT := Eh (aR (q := fun c : ClmE => bY table c.c) HX.out (by rw [nr]; simp [hk2, ht2]))
   have uZ := Eh ((vh.out.alloc x.cells.toArray tCl).front 1 rfl)
   have vk := Eh (aS (size := 16) (n := 1) (uZ.out.blk 1 rfl) rfl (by unfold maxLen; omega))
   clear hk2 ht2 vh
   go_upto_region 10 with (first | (refine ai rfl _ _ rfl _ _ rfl _ HL.out ?_) | (refine aD rfl _ _ rfl tCl i1 _ x.cells rfl Tryz.underlying45 xK.out.1 xK.out.2.1 (xK.out.2.2.1.trans rfl) (by rw [ClmE.len]; decide) (by rw [ClmE.len]; decide) ?_) | (at_builtin; refine au _ rfl _ _ tCs rfl tCl i1 _ 16 184 Tryz.underlying45 xK.out.1 xK.out.2.1 xK.out.2.2.1 xK.out.2.2.2 rfl _ ds.length _ rfl uZ.out _ 1 _ rfl vk.out (by simpa using ClmE.one x) (by unfold maxLen; omega) (by omega) ?_; intro v14 w14 hs14 h14; obtain ⟨va, vc, rfl⟩ := hs14.own_shape; have vi := Eh hs14; clear hs14 h14 uZ vk HL))
   clear hne hne2 x0 x1
   obtain ⟨g', og', hg', hrng⟩ := aF ClmE.len (by have := wE.out.1.rd vi.out; rw [HM.out] at this; exact this) HX.out HM.out
   cases hg'
   have x2 : w14.cell? ⟨g, og + k * 16 + 2, none⟩ = some (.int .i64 x.mode) := hrng 2 _ rfl
   clear hrng
   by_cases h3 : x.mode = 3
   ·have A2 := Eh (show fA ((ds ++ [x]).map ClmE.c) = fA (ds.map ClmE.c) by rw [List.map_append]; exact tX (c := x.c) h3)
    rw [h3] at x2
    clear h3
    go_wp2_with fail
    go_roundw
    case rel =>
     refine ⟨k + 1, va, vc, ds ++ [x], by rw [List.length_append]; go_num, by rw [List.length_append]; rfl, by go_num, by omega, by rw [HT.out, yX.out], ?_⟩
     rw [A2.out]
     show Sat B D2 w14 (aI tCl 16 (.slice va (ds ++ [x]).length vc) (ds ++ [x]).length ((ds ++ [x]).flatMap ClmE.cells) :: _)
     rw [List.length_append, List.flatMap_append]
     have h9 := (vi.out.front 1 rfl).drop
     simpa using h9
    case measure => simp [intOf]; omega
   ·have A2 := Eh (show fA ((ds ++ [x]).map ClmE.c) = 6 by rw [List.map_append]; exact tW (c := x.c) h3)
    have h3' : (x.mode != 3) = true := by simpa using h3
    have yy2 := (aV (vi.out.blk 2 rfl)).1
    have yf := frz (vi.out.blk 2 rfl)
    have vn := Eh (Sat.setMd (vi.out.front 2 rfl))
    clear h3 vi
    go_wp2_with fail
    go_roundw
    case rel =>
     refine ⟨k + 1, va, vc, ds ++ [x], by rw [List.length_append]; go_num, by rw [List.length_append]; rfl, by go_num, by omega, by rw [HT.out, yX.out], ?_⟩
     rw [A2.out]
     show Sat B D2 _ (aI tCl 16 (.slice va (ds ++ [x]).length vc) (ds ++ [x]).length ((ds ++ [x]).flatMap ClmE.cells) :: _)
     rw [List.length_append, List.flatMap_append]
     have h9 := ((vn.out.front 2 rfl).drop).front 1 rfl
     simpa using h9
    case measure => simp [intOf]; omega
  ·have hii : ¬ ((k : Int) < (M : Int)) := by omega
   have HT := Eh (show ds = cs.filter (fun c => bY table c.c) by rw [yX.out, List.take_of_length_le (by rw [HM.out]; omega)])
   obtain ⟨D4, hle4, hcd, hs5⟩ := jZ vh.out (fun c hc => by rw [HT.out] at hc; exact wE.out.2 c (List.mem_filter.1 hc).1)
   have hmap2 : ds.map ClmE.c = bB d.q o table := by rw [HT.out]; unfold bB; rw [← AG.out, List.filter_map]; rfl
   obtain ⟨R, hR⟩ : ∃ R, bB d.q o table = R := ⟨_, rfl⟩
   rw [hR] at hmap2
   rw [hmap2] at hs5
   have BV := Eh hR
   have A3 := Eh hmap2
   have wB := Eh (vv.out.trans hle4)
   have CJ := Eh hcd
   have xg := Eh (eq o (xz.out.q.mono wB.out) hs5)
   have BX := Eh (show (bB d.q o table).length = ds.length by rw [hR, ← hmap2, List.length_map])
   obtain ⟨q0, q1, q2, q3, q4, qf⟩ := aT (hs5.blk 1 rfl)
   clear hle4 hcd hs5 hmap2 hR vh AG
   go_upto_region 14 with (first | (go_at_call 32; refine xg.out.mono ?_; rintro e4 w4 ⟨z, rfl, hzc, hzo, _, hs6⟩; have vi := Eh (hs6.alloc z.cells.toArray tCl); clear hzc hzo hs6 xg q0 q1 q2 q3 q4 qf) | (refine ax rfl _ _ _ rfl z.cells _ _ rfl rfl (by kernel_rfl) rfl (ClmE.one z) ?_))
   obtain ⟨W6, hW6, hs6⟩ := Sat.hide vi.out
   rw [← hW6]
   have vi := Eh hs6.drop
   clear hW6 hs6 hii
   obtain ⟨wb, hwb⟩ : ∃ wb, (aP d.q o).2 = wb := ⟨_, rfl⟩
   rw [hwb]
   have DR := Eh hwb
   clear hwb
   obtain ⟨nn, hnn⟩ : ∃ nn, ds.length = nn := ⟨_, rfl⟩
   rw [hnn] at hled BX CJ ⊢
   have ym := Eh hnn
   have hn9 : nn ≤ 999 := by omega
   clear hnn
   by_cases hmn : (nn : Int) ≤ many
   ·have HR := Eh (show rr = (d, false) by rw [vA.out]; exact kL (.inr (.inl (by rw [BX.out]; exact hmn))))
    have uY := Eh (vi.out.front 2 rfl)
    have vx := Eh (aG (uY.out.blk 2 rfl))
    clear vA
    go_wp2_with (first | (refine ai rfl _ _ rfl _ _ rfl [_, _, _, _, _] vx.out ?_) | (refine ap rfl _ _ _ rfl aQ b2 rfl [y0, y1, y2, y3, y4] rfl cp uY.out (by kernel_rfl) rfl H1.out ?_; intro w9 hs9; have vu := Eh hs9; clear hs9 uY))
    refine bodyPost_ret (aL rfl _ _ rfl (aG (vu.out.blk 0 rfl))) rfl ?_
    rw [HR.out]
    exact ⟨_, _, rfl, wB.out, HD.out.mono wB.out, vu.out.drop.drop.drop⟩
   by_cases h0 : nn = 0
   ·subst h0
    have HR := Eh (show rr = (d, false) by rw [vA.out]; exact kL (.inl BX.out))
    have uY := Eh (vi.out.front 2 rfl)
    have vx := Eh (aG (uY.out.blk 2 rfl))
    clear vA
    go_wp2_with (first | (refine ai rfl _ _ rfl _ _ rfl [_, _, _, _, _] vx.out ?_) | (refine ap rfl _ _ _ rfl aQ b2 rfl [y0, y1, y2, y3, y4] rfl cp uY.out (by kernel_rfl) rfl H1.out ?_; intro w9 hs9; have vu := Eh hs9; clear hs9 uY))
    refine bodyPost_ret (aL rfl _ _ rfl (aG (vu.out.blk 0 rfl))) rfl ?_
    rw [HR.out]
    exact ⟨_, _, rfl, wB.out, HD.out.mono wB.out, vu.out.drop.drop.drop⟩
   have h0' : ((nn : Int) == 0) = false := by simp; omega
   cases wb
   rotate_left
   ·have HR := Eh (show rr = (d, false) by rw [vA.out]; exact kL (.inr (.inr (sD _ _ DR.out))))
    have uY := Eh (vi.out.front 2 rfl)
    have vx := Eh (aG (uY.out.blk 2 rfl))
    clear vA
    go_wp2_with (first | (refine ai rfl _ _ rfl _ _ rfl [_, _, _, _, _] vx.out ?_) | (refine ap rfl _ _ _ rfl aQ b2 rfl [y0, y1, y2, y3, y4] rfl cp uY.out (by kernel_rfl) rfl H1.out ?_; intro w9 hs9; have vu := Eh hs9; clear hs9 uY))
    refine bodyPost_ret (aL rfl _ _ rfl (aG (vu.out.blk 0 rfl))) rfl ?_
    rw [HR.out]
    exact ⟨_, _, rfl, wB.out, HD.out.mono wB.out, vu.out.drop.drop.drop⟩
   go_upto_region 16 with fail
   clear h0' hled
   have Dm := Eh (And.intro h0 hmn)
   clear h0 hmn
   have vr := Eh (az (ak (vi.out.blk 0 rfl)))
   have Ab := Eh (kU o (fa table (fA R)) true vP.out.1 (xz.out.q.mono wB.out) (kJ D4 _ _) (nz _ _) (qQ _ _ _) vP.out.2.1 (by have := vP.out.2.2.2; omega) (by have := vP.out.2.2.2; omega) vi.out)
   rw [qF, show (!true) = false from rfl] at Ab
   obtain ⟨Q1, is, hask⟩ : ∃ Q1 is, bj RC d.q o (dB table R) false = (Q1, is) := ⟨_, _, rfl⟩
   rw [hask] at Ab
   have vy := Eh hask
   have yx := Eh (show Q1.held.length + Q1.waits.length ≤ 1000 by have h1 := m9 (R := RC) d.q o (dB table R) false; rw [hask] at h1; have h2 := vP.out.2.2.2; dsimp only at h1; omega)
   obtain ⟨q0, q1, q2, q3, q4, qf⟩ := aT (vi.out.blk 1 rfl)
   clear hask
   go_upto_region 17 with (first | (refine ai rfl _ _ rfl _ _ rfl _ vr.out ?_) | (go_at_call 102; refine Ab.out.mono ?_; rintro ea wa ⟨v7, D7, rfl, hle7, hq7, hs7⟩; obtain ⟨hv7, wv7, rfl, o7, p7⟩ := lT hq7; have vB := Eh (wB.out.trans hle7); have AJ := Eh hle7; have yK := Eh hq7; have wj := Eh (And.intro o7 p7); have vn := Eh (hs7.alloc #[hv7, wv7] tRq); clear hle7 hq7 o7 p7 hs7 Ab vi vr q0 q1 q2 q3 q4 qf) | (refine ax rfl _ _ _ rfl [hv7, wv7] _ _ rfl rfl (by kernel_rfl) rfl (by intro u hu; simp at hu; rcases hu with rfl | rfl; exact wj.out.1; exact wj.out.2) ?_))
   obtain ⟨Wb, hWb, hsb⟩ := Sat.hide vn.out
   rw [← hWb]
   clear hWb vn
   generalize wa.heap.size = bq at hsb ⊢
   have xV := Eh hsb
   clear hsb
   cases is
   ·have HR := Eh (show rr = (d, false) by rw [vA.out]; exact kL (.inr (.inr (by rw [BV.out, vy.out]))))
    have uY := Eh (xV.out.front 3 rfl)
    have vx := Eh (aG (uY.out.blk 3 rfl))
    clear vA
    go_wp2_with (first | (refine ai rfl _ _ rfl _ _ rfl [_, _, _, _, _] vx.out ?_) | (refine ap rfl _ _ _ rfl aQ b2 rfl [y0, y1, y2, y3, y4] rfl cp uY.out (by kernel_rfl) rfl H1.out ?_; intro w9 hs9; have vu := Eh hs9; clear hs9 uY))
    refine bodyPost_ret (aL rfl _ _ rfl (aG (vu.out.blk 0 rfl))) rfl ?_
    rw [HR.out]
    exact ⟨_, _, rfl, vB.out, HD.out.mono vB.out, vu.out.drop.drop.drop.drop⟩
   have vU := Eh (bv (ak (cs := [hv7, wv7]) (xV.out.blk 0 rfl)))
   have ze := Eh (xV.out.front 2 rfl)
   clear xV
   go_upto_region 20 with (first | (refine ai rfl _ _ rfl _ _ rfl [_, _] vU.out ?_) | (refine bm rfl _ _ _ rfl aQ b1 2 rfl [hv7, wv7] rfl [y0, y1, y2, y3, y4] ze.out (by kernel_rfl) (by simp) (by intro u hu; simp at hu; rcases hu with rfl | rfl; exact wj.out.1; exact wj.out.2) ?_; intro wc hsc; have xD := Eh (show Sat B D7 wc (blk b1 #[y0, y1, hv7, wv7, y4] aQ :: _) from hsc); clear hsc ze vU))
   have vw := Eh (show Sat B D7 wc (blk b1 #[y0, y1, hv7, wv7, y4] aQ :: blk bc (fa table (fA R)).cells.toArray tCl :: blk b2 cp aQ :: l) from by
    have h := (xD.out.front 1 rfl).drop
    exact h)
   clear xD
   have BY := Eh (show DocD D7 (.agg #[y0, y1, hv7, wv7, y4]) ⟨d.ts, d.room, Q1, d.r⟩ from DocW.d ⟨xz.out.t.mono vB.out, xz.out.m, yK.out, by obtain ⟨es, h1, h2⟩ := xz.out.r; exact ⟨es, h1.mono vB.out, h2⟩⟩)
   go_wp2_with fail
   go_loopw [19] (fun ii wr => ∃ (k : Nat) (D8 : PH) (z0 z1 z2 z3 z4 : Value), ii = .int .i64 k ∧ k ≤ nn ∧ PH.le D7 D8 ∧ DocD D8 (.agg #[z0, z1, z2, z3, z4]) ⟨d.ts, d.room, Q1, (R.take k).foldl (fun m c => bL m o c) d.r⟩ ∧ Sat B D8 wr (blk b1 #[z0, z1, z2, z3, z4] aQ :: blk bc (fa table (fA R)).cells.toArray tCl :: blk b2 cp aQ :: l)) (fun ii _ => nn - (intOf ii).toNat)
   case atStart => exact ⟨0, D7, _, _, _, _, _, rfl, by omega, PH.le.refl _, BY.out, vw.out⟩
   case round =>
    obtain ⟨k, D8, z0, z1, z2, z3, z4, rfl, hk8, hle8, hd8, hs8⟩ := hrel
    have xM := Eh hle8
    have CK := Eh hd8
    have vu := Eh hs8
    clear hle8 hd8 hs8 vw BY
    by_cases hlt8 : k < nn
    ·have hii8 : (k : Int) < (nn : Int) := by omega
     obtain ⟨x, hx⟩ : ∃ x, ds[k]? = some x := ⟨ds[k]'(by rw [ym.out]; exact hlt8), List.getElem?_eq_getElem _⟩
     have hxr : R[k]? = some x.c := by rw [← A3.out, List.getElem?_map, hx]; rfl
     have wF := Eh (mf o hxr d.r)
     obtain ⟨g, og, hg, hrng, hxo⟩ := clmAt (CJ.out.mono (AJ.out.trans xM.out)) vu.out.drew ym.out hx
     subst hg
     have vt := Eh (az (w := wr.drew) hrng)
     have vx := Eh (aG (w := wr.drew) (vu.out.drew.blk 0 rfl))
     have zd := Eh (j9 o x CK.out hxo (Nat.le_trans (fm o (R.take k) d.r) (Nat.le_trans vP.out.2.2.1 (by decide))) vu.out.drew)
     clear hx hxr hrng hxo vu
     go_upto_region 23 with fail
     refine ag [(0, false, 6), (1, false, 6), (2, false, 6), (3, false, 6), (4, false, 6), (5, false, 6), (6, true, 0), (7, true, 0)] (by kernel_rfl) (by kernel_rfl) ?_
     iterate 6 (refine af rfl rfl (fun K hK => ?_); (first | ((refine aj _ _ rfl _ _ rfl _ vt.out ?_); go_simp) | ((refine aj _ _ rfl _ _ rfl [_,_,_,_,_] vx.out ?_); go_simp) | go_simp); refine hK _ ?_; clear hK K)
     refine al rfl ?_
     refine aw rfl (fun K hK => ?_)
     go_simp
     refine zd.out.mono ?_
     rintro e12 w12 ⟨v12, D12, rfl, hle12, hd12, hs12⟩
     obtain ⟨u0, u1, u2, u3, u4, rfl, hu⟩ := eY hd12
     have yt := Eh hle12
     have CL := Eh hd12
     have HU := Eh hu
     have vY := Eh hs12
     clear hle12 hd12 hs12 hu zd vt vx
     refine hK _ _ ?_
     clear hK K
     refine wpList_nil ?_
     refine And.intro ?_ ?_
     ·go_simp
     refine al rfl ?_
     refine ap rfl _ _ _ rfl aQ b1 rfl [u0, u1, u2, u3, u4] rfl #[z0, z1, z2, z3, z4] vY.out (by kernel_rfl) rfl HU.out ?_
     intro w13 hs13
     have vM := Eh hs13
     clear hs13 vY
     refine wpList_nil ?_
     refine And.intro ?_ ?_
     ·go_simp
     refine ar ?_
     go_wp2_with fail
     go_roundw
     case rel => exact ⟨k + 1, D12, u0, u1, u2, u3, u4, by go_num, by omega, xM.out.trans yt.out, by rw [wF.out]; exact CL.out, vM.out⟩
     case measure => simp [intOf]; omega
    ·have hii8 : ¬ ((k : Int) < (nn : Int)) := by omega
     obtain rfl : k = nn := by omega
     have hall : R.take k = R := List.take_of_length_le (by rw [← A3.out, List.length_map, ym.out]; omega)
     rw [hall] at CK
     clear hall
     have zS := Eh (kt CK.out)
     go_upto_region 25 with fail
     clear hii8 hk8
     obtain ⟨es, hr, hrr⟩ := zS.out.r
     have hel : es.length ≤ 999 := by
      have h1 := fm o R d.r
      have h2 := vP.out.2.2.1
      have h3 := congrArg List.length hrr
      rw [List.length_map] at h3
      dsimp only at h3
      omega
     have zo := Eh hrr
     have BS := Eh hr.2
     have xD := Eh (vu.out.own_nil ct 19)
     have vk := Eh (hr.1.rd xD.out)
     have zR := Eh (jC es)
     obtain ⟨q0, q1, q2, q3, q4, qf⟩ := aT (xD.out.blk 1 rfl)
     clear hr hrr vu
     generalize hNE : es.length = NE at *
     have xE := Eh hNE
     clear hNE
     go_upto_region 26 with (at_builtin; refine au _ rfl _ _ go rfl ct i0 _ 19 208 Tryz.underlying59 HI.out.1 HI.out.2.1 HI.out.2.2.1 HI.out.2.2.2 rfl _ 0 _ rfl xD.out _ NE _ rfl vk.out zR.out (by unfold maxLen; omega) (by omega) ?_; intro v13 w13 hs13 h13; have vM := Eh hs13; clear hs13 h13 xD vk q0 q1 q2 q3 q4 qf)
     have wh := Eh (show Sat B D8 w13 (aI ct 19 v13 NE (es.flatMap aZ) :: _) from by have h := vM.out; rw [Nat.zero_add, List.nil_append] at h; exact h)
     obtain ⟨e, he⟩ : ∃ e : ReaE, e = ⟨o, fa table (fA R), 3, 0⟩ := ⟨_, rfl⟩
     have HE := Eh he
     have vr := Eh (az (ak (wh.out.blk 2 rfl)))
     have vR := Eh ((wh.out.alloc (aZ e).toArray ct).front 1 rfl)
     have vk := Eh (aS (size := 19) (n := 1) (vR.out.blk 1 rfl) (by simp [dA]) (by unfold maxLen; omega))
     clear vM wh he
     go_upto_region 27 with (first | (refine ai rfl _ _ rfl _ _ rfl _ vr.out ?_) | (refine ju rfl _ _ _ rfl o (fa table (fA R)) rfl rfl rfl ?_; rw [← HE.out]) | (refine aD rfl _ _ rfl ct i0 _ (aZ e) rfl Tryz.underlying59 HI.out.1 HI.out.2.1 (HI.out.2.2.1.trans rfl) (by rw [dA]; decide) (by rw [dA]; decide) ?_) | (at_builtin; refine au _ rfl _ _ go rfl ct i0 _ 19 208 Tryz.underlying59 HI.out.1 HI.out.2.1 HI.out.2.2.1 HI.out.2.2.2 rfl _ NE _ rfl vR.out _ 1 _ rfl vk.out (by simpa using ku e) (by unfold maxLen; omega) (by omega) ?_; intro v16 w16 hs16 h16; have vS := Eh hs16; clear hs16 h16 vR vk vr))
     obtain ⟨va, vc, rfl⟩ := vS.out.own_shape
     have vO := Eh (show Sat B D8 w16 (blk b1 #[z0, z1, z2, z3, z4] aQ :: iJ (.slice va (NE + 1) vc) (es ++ [e]) :: blk bc (fa table (fA R)).cells.toArray tCl :: blk b2 cp aQ :: l) from by
      show Sat B D8 w16 (_ :: aI ct 19 (.slice va (NE + 1) vc) (es ++ [e]).length ((es ++ [e]).flatMap aZ) :: _)
      rw [List.length_append, List.flatMap_append, xE.out]
      have h := ((vS.out.front 1 rfl).drop).front 1 rfl
      simpa using h)
     have wW := Eh (Sat.set5e vO.out (.slice va (NE + 1) vc))
     obtain ⟨q0, q1, q2, q3, q4, qf⟩ := aT (vO.out.blk 0 rfl)
     go_upto_region 28 with fail
     obtain ⟨Wd, hWd, hsd⟩ := Sat.hide wW.out
     rw [← hWd]
     clear hWd wW vO vS q0 q1 q2 q3 q4 qf
     obtain ⟨D9, hle9, hE9, hs19⟩ := fo (hsd.front 1 rfl) (fun x hx => by
      rcases List.mem_append.1 hx with hx | hx
      ·exact BS.out x hx
      ·rw [List.mem_singleton] at hx
       rw [hx, HE.out]
       exact kJ D8 _ _)
     have CM := Eh (mR o (zS.out.q.mono hle9) (CJ.out.mono ((AJ.out.trans xM.out).trans hle9)) yx.out hs19)
     rw [A3.out] at CM
     obtain ⟨q0, q1, q2, q3, q4, qf⟩ := aT (hs19.blk 0 rfl)
     have wq := Eh hle9
     have DS := Eh hE9
     clear hsd hs19 hle9 hE9
     go_upto_region 29 with (first | (go_at_call 103; refine CM.out.mono ?_; rintro e20 w20 ⟨v20, iv, D20, rfl, hle20, hq20, hs20⟩; obtain ⟨hv20, wv20, rfl, o20, p20⟩ := lT hq20; obtain ⟨ia, ic, rfl⟩ := hs20.own_shape; have zT := Eh hle20; have CN := Eh hq20; have zh := Eh (And.intro o20 p20); have vq := Eh (hs20.drop.alloc #[hv20, wv20] tRq); clear hle20 hq20 o20 p20 hs20 CM q0 q1 q2 q3 q4 qf) | (refine ax rfl _ _ _ rfl [hv20, wv20] _ _ rfl rfl (by kernel_rfl) rfl (by intro u hu; simp at hu; rcases hu with rfl | rfl; exact zh.out.1; exact zh.out.2) ?_))
     obtain ⟨We, hWe, hse⟩ := Sat.hide vq.out
     rw [← hWe]
     clear hWe vq
     generalize w20.heap.size = bp at hse ⊢
     have vU := Eh (bv (ak (cs := [hv20, wv20]) (hse.blk 0 rfl)))
     have AZ := Eh (hse.front 1 rfl)
     clear hse
     go_upto_region 30 with (first | (refine ai rfl _ _ rfl _ _ rfl [_, _] vU.out ?_) | (refine bm rfl _ _ _ rfl aQ b1 2 rfl [hv20, wv20] rfl [z0, z1, z2, z3, .slice va (NE + 1) vc] AZ.out (by kernel_rfl) (by simp) (by intro u hu; simp at hu; rcases hu with rfl | rfl; exact zh.out.1; exact zh.out.2) ?_; intro w21 hs21; have xy := Eh (show Sat B D20 w21 (blk b1 #[z0, z1, hv20, wv20, .slice va (NE + 1) vc] aQ :: _) from hs21); clear hs21 AZ vU))
     have vx := Eh (aG (xy.out.blk 0 rfl))
     have yw := Eh (xy.out.front 3 rfl)
     clear xy
     go_wp2_with (first | (refine ai rfl _ _ rfl _ _ rfl [_, _, _, _, _] vx.out ?_) | (refine ap rfl _ _ _ rfl aQ b2 rfl [z0, z1, hv20, wv20, .slice va (NE + 1) vc] rfl cp yw.out (by kernel_rfl) rfl (by intro u hu; simp at hu; rcases hu with rfl | rfl | rfl | rfl | rfl; exact zS.out.ones.1; exact zS.out.ones.2.1; exact zh.out.1; exact zh.out.2; rfl) ?_; intro w23 hs23; have BZ := Eh hs23; clear hs23 yw))
     refine bodyPost_ret (aL rfl _ _ rfl (aG (BZ.out.blk 0 rfl))) rfl ?_
     have hyes := tK (d := d) (o := o) (table := table) (many := many) (by rw [BX.out]; exact Dm.out.1) (by rw [BX.out]; have := Dm.out.2; omega) (by rw [BV.out, vy.out])
     rw [BV.out, vy.out] at hyes
     rw [vA.out, hyes]
     have hw9 := (zS.out.mono wq.out).mono zT.out
     refine ⟨_, D20, rfl, ((vB.out.trans xM.out).trans wq.out).trans zT.out, DocW.d ⟨hw9.t, hw9.m, CN.out, ⟨es ++ [e], DS.out.mono zT.out, ?_⟩⟩, BZ.out.drop.drop.drop.drop⟩
     rw [List.map_append, zo.out, HE.out]
     rfl
end Go.Proofs.YtgljdkjepdknnaaGreatDoor
