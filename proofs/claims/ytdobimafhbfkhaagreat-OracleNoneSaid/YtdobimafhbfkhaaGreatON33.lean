/- Joined texts: Rows are changed, all or none (txn.all). A row is changed by its key (txn.one, txn.update). A row is changed by a statement's key (txn.update). Cursors of a transaction. A cursor is closed (txn.close). A cursor is opened (txn.open). -/
import Derived.Test.YtdobimafhbfkhaaGreatON32
import Derived.Laws.MakeOwn
set_option maxHeartbeats 64000000
namespace Go.Proofs.YtdobimafhbfkhaaGreat
open Go.ChangeShapes Go.WideShapes Go.ChangeAt Go.RowKit
set_option maxRecDepth 100000
set_option linter.unusedSimpArgs false
theorem oe : (Tryz.prog.info? tW).map (fun i => (i.zero, i.size, i.bytes)) = some (some (.slice none 0 0), 1, 24) := by kernel_rfl
theorem rW {B w : World} {D : PH} {x o : Nat} {X : TxM} {l : List HP} (h : TxIn B w D x o X l) {e : TypeId} {cap : Nat} {cs : Array Value} (hc : cap ≤ maxLen) (hz : cap * 1 ≤ cs.size) : TxIn B (w.alloc (.cells cs e)) D x o X (aC e 1 (.slice (some ⟨w.heap.size, 0, none⟩) 0 cap) 0 [] :: l) := by
 obtain ⟨H, h1, hs⟩ := h
 have h2 := hs.own_fresh (e := e) (size := 1) (n := 0) (cap := cap) (cs := cs) (xs := []) (Nat.zero_le _) hc hz (by simp) (by simp)
 exact ⟨H, h1, (h2.perm (List.perm_middle (l₁ := txL D x o X H) (l₂ := l)).symm)⟩
theorem eZ {P : Program} {B : World} {D : PH} {xb ob : Nat} {X : TxM} {l : List HP} (w : World) {ops : Array Oper} {rest : List Oper} {o : Oper} {a : Act} {Q : Exit → Act → World → Prop} (hgd : o.guard = none) (s x : Operand) (t : TypeId)
  (ho : o.op = .call { callee := .builtin .append, args := #[s, x], argTypes := #[t, t] })
  (e : TypeId) (i : TypeInfo) (z : Value) (size bytes : Nat) (ht : P.underlying t = some (.slice e)) (hi : P.info? e = some i) (hz : i.zero = some z)
  (hsize : i.size = size) (hby : i.bytes = bytes) (hzs : z.cells.size = size)
  (v : Value) (n : Nat) (xs : List Value) (hv : a.eval s = v) (hs : TxIn B w D xb ob X (aC e size v n xs :: l)) (xv : Value) (m : Nat) (news : List Value) (hx : a.eval x = xv) (hrd : Rd w size xv m news) (h1 : ∀ u ∈ news, u.oneCell' = true)
  (h63 : n + m ≤ maxLen) (hbytes : (n + m) * bytes ≤ 140737488355328)
  (h : ∀ ra rc w', TxIn B w' D xb ob X (aC e size (.slice ra (n + m) rc) (n + m) (xs ++ news) :: l) → wpList P ops Q rest (a.put o.dst (.slice ra (n + m) rc)) w') : wpList P ops Q (o :: rest) a w := by
 obtain ⟨H, hH, hs⟩ := hs
 refine aM w hgd s x t ho e i z size bytes ht hi hz hsize hby hzs v n xs hv (hs.perm (List.perm_middle (l₁ := txL D xb ob X H) (a := aC e size v n xs) (l₂ := l))) xv m news hx hrd h1 h63 hbytes (fun v' w' hs' _ => ?_)
 obtain ⟨ra, rc, rfl⟩ := hs'.own_shape
 exact h ra rc w' ⟨H, hH, hs'.perm (List.perm_middle (l₁ := txL D xb ob X H) (a := aC e size (.slice ra (n + m) rc) (n + m) (xs ++ news)) (l₂ := l)).symm⟩
theorem l6 {X : TxM} {i : Nat} {c : List Bool} (h : X.cols[i]? = some c) : X.col (i : Int) = c := by
 unfold TxM.col
 rw [Int.toNat_natCast, List.getD_eq_getElem?_getD, h]; rfl
theorem kK {B w : World} {D : PH} {x o : Nat} {X : TxM} {l : List HP} {e : TypeId} {size n : Nat} {v : Value} {xs : List Value} (h : TxIn B w D x o X (aC e size v n xs :: l)) : ∃ D', PH.le D D' ∧ RdP D' size v n xs ∧ TxIn B w D' x o X l := by
 obtain ⟨H, hH, hs⟩ := h
 obtain ⟨D', hle, hrd, hs2⟩ := (hs.perm (List.perm_middle (l₁ := txL D x o X H) (l₂ := l))).own_give
 exact ⟨D', hle, hrd, jz hH hle hs2⟩
theorem FreshD.fit {D : PH} {hs : List Value} {fr : au} (h : FreshD D hs fr) : ∀ q ∈ fr, bN q := by
 induction h with
 | nil => intro q hq; cases hq
 | cons hab _ ih =>
  intro q hq
  rcases List.mem_cons.1 hq with rfl | hq
  ·exact hab.2
  ·exact ih q hq
def qW (c : List Bool) (m : au) (fr : au) : Prop := ∀ q ∈ fr, bC c q = true ∧ (aX m (aH q)).isSome = true
theorem nJ {B w : World} {D : PH} {x o i : Nat} {X : TxM} {l : List HP} {m : au} {c : List Bool} {rs : au} {sets : List SetM} {lv sv : Value} (hm : X.tabs[i]? = some m) (hc : X.cols[i]? = some c) (hI : TabI c m) (hml : m.length ≤ 200)
  (hrs : ∀ r ∈ rs, bC c r = true ∧ (aX m (aH r)).isSome = true) (hrd : RowsF D lv rs) (hset : SetsF D sv sets) (hn : rs.length ≤ 200) (hb : X.log.length + rs.length ≤ 10000) (h : TxIn B w D x o X l) :
  Calls Tryz.prog 97 #[.pointer (some ⟨x, 0, none⟩), .int .i64 i, lv, sv] w (dR B D x o l (X.all i rs sets)) := by
 obtain ⟨i0, hi, hz0, hz1, hz2⟩ := info_parts oe
 obtain ⟨N, hN⟩ : ∃ N, rs.length = N := ⟨_, rfl⟩
 obtain ⟨W0, hW0, h0⟩ : ∃ W, W = w.alloc (.cells aZ bl) ∧ TxIn B W D x o X (blk w.heap.size aZ bl :: l) := ⟨_, rfl, h.alloc aZ bl⟩
 have tq := Bb hW0
 obtain ⟨us, hu1, hu2, hu3, hu4⟩ := hrd.1
 obtain ⟨la, lc, rfl⟩ := hu3.shape
 have wb := Bb (show RdP D 1 (.slice la N lc) N us from hN ▸ hu3)
 rw [hN] at hn hb ⊢
 have sS := Bb h0
 clear hW0 h h0 hu3
 go_enter Tryz.func97, Tryz.ntmps97
 go_upto_region 1 with fail
 rw [← tq.out]
 clear tq
 generalize w.heap.size = ba at sS ⊢
 have hmk : (Instr.makeSlice 55 (.int .i64 0) (.int .i64 (N : Int))).run Tryz.prog W0 = .ok (.slice (some ⟨W0.heap.size, 0, none⟩) 0 N) (W0.alloc (.cells (Go.madeCells #[.slice none 0 0] (N * i0.size)) tW)) :=
  Go.run_make (P := Tryz.prog) W0 55 tW i0 (.slice none 0 0) Tryz.underlying55 hi hz0 .i64 .i64 0 (N : Int) (by omega) (by omega) (by rw [hz2]; omega) (by omega)
 have hs1 := rW sS.out (e := tW) (cap := N) (cs := Go.madeCells #[.slice none 0 0] (N * i0.size)) (by unfold maxLen; omega) (by rw [Go.size_madeCells, hz1]; omega)
 obtain ⟨W1, hW1⟩ : ∃ W, W = W0.alloc (.cells (Go.madeCells #[.slice none 0 0] (N * i0.size)) tW) := ⟨_, rfl⟩
 rw [← hW1] at hmk hs1
 generalize W0.heap.size = bf at hmk hs1
 have sK := Bb hs1
 have HI := Bb (And.intro hi (And.intro hz0 (And.intro hz1 hz2)))
 have HN := Bb hN
 have yW := Bb hrs
 have HM := Bb hm
 have HC := Bb hc
 have uO := Bb hI
 have yH := Bb hml
 have ut := Bb hset
 have sU := Bb hrd
 have HU := Bb (And.intro hu1 (And.intro hu2 hu4))
 clear hi hz0 hz1 hz2 hW1 hs1 sS hN hrs hm hc hI hml hset hrd hu1 hu2 hu4
 go_upto_region 2 with fail
 clear hmk
 go_wp2_with fail
 go_loopw [9, 21] (fun fv idx wr => ∃ (j : Nat) (fa : Option Addr) (fc : Nat) (hs : List Value) (fr : au) (D' : PH), idx = .int .i64 j ∧ j ≤ N ∧ fv = .slice fa j fc ∧ cp c sets (rs.take j) [] = (fr, 0) ∧ qW c m fr ∧ (∀ u ∈ hs, u.oneCell' = true) ∧ FreshD D' hs fr ∧ PH.le D D' ∧ TxIn B wr D' x o X (aC tW 1 (.slice fa j fc) j hs :: blk ba aZ bl :: l)) (fun _ idx _ => N - (intOf idx).toNat)
 case atStart => exact ⟨0, some ⟨bf, 0, none⟩, N, [], [], D, rfl, Nat.zero_le _, rfl, rfl, (fun q hq => by cases hq), (fun u hu => by cases hu), .nil, PH.le.refl _, sK.out⟩
 case round =>
  obtain ⟨j, fa, fc, hs, fr, D2, rfl, hj, rfl, hup, hfm, hone, hfd, hle, htx⟩ := hrel
  have zb := Bb hup
  have xR := Bb hfm
  have AP := Bb hone
  have zc := Bb hfd
  have te := Bb hle
  have tw := Bb htx
  clear hup hfm hone hfd hle htx sK
  by_cases hlt : j < N
  ·obtain ⟨r, hr⟩ : ∃ r, rs[j]? = some r := ⟨rs[j]'(by rw [HN.out]; exact hlt), List.getElem?_eq_getElem _⟩
   obtain ⟨u, hu⟩ : ∃ u, us[j]? = some u := ⟨us[j]'(by rw [HU.out.1, HN.out]; exact hlt), List.getElem?_eq_getElem _⟩
   have tD := Bb (show rs.take (j + 1) = rs.take j ++ [r] by rw [List.take_add_one, hr]; rfl)
   have vF := Bb (yW.out r (List.mem_of_getElem? hr))
   have vO := Bb (show RowF D2 u r from ⟨RdP.mono (HU.out.2.2 j u r hu hr) te.out, sU.out.2 r (List.mem_of_getElem? hr)⟩)
   obtain ⟨lg, lo, rfl, hcu⟩ : ∃ lg lo, la = some ⟨lg, lo, none⟩ ∧ wr.cell? ⟨lg, lo + j, none⟩ = some u := by
    obtain ⟨_, _, ao, cap, hv, _, _, _, hcell⟩ := (wb.out.mono te.out).rd tw.out.sat
    cases hv
    rcases hcell with h0 | ⟨g, og, hg, hcc⟩
    ·omega
    ·exact ⟨g, og, hg, hcc j u hu⟩
   obtain ⟨g, og, cap, cv, c0, d0, dc, hcol⟩ := ls tw.out HC.out
   have hlc : (i : Int) < (X.cols.length : Int) := by have := (List.getElem?_eq_some_iff.1 HC.out).1; omega
   have wd := Bb (pT tw.out hcol vO.out (ut.out.mono te.out))
   have hji : (j : Int) < (N : Int) := by omega
   clear hr hu hcol
   generalize X.cols.length = CN at *
   by_cases he : (cz c r sets).2 = 0
   ·rw [he] at wd
    have HE := Bb he
    clear he
    have zE := Bb (show qW c m (fr ++ [(cz c r sets).1]) from fun q hq => by
     rcases List.mem_append.1 hq with hq | hq
     ·exact xR.out q hq
     ·obtain rfl := List.mem_singleton.1 hq
      obtain ⟨f1, f2, f3⟩ := lJ vF.out.1 vO.out.2 ut.out.2 HE.out
      exact ⟨f1, f3.symm ▸ vF.out.2⟩)
    have zF := Bb (show cp c sets (rs.take (j + 1)) [] = (fr ++ [(cz c r sets).1], 0) by rw [tD.out, gj r zb.out, if_pos HE.out])
    go_upto_region 8 with (go_at_call 113; refine wd.out.mono ?_; rintro e2 w2 ⟨a2, n2, c2, D3, rfl, hle3, hrw3, htx3⟩; have tt := Bb (te.out.trans hle3); have we := Bb hle3; have wg := Bb hrw3; have tk := Bb htx3; clear hle3 hrw3 htx3 wd tw c0 d0 dc hcu)
    have ht4 := (tk.out.alloc #[.slice a2 n2 c2] tW).perm (List.Perm.swap _ _ _)
    have wh := Bb (bR (size := 1) (n := 1) (aw w2 (.cells #[.slice a2 n2 c2] tW)) rfl (by unfold maxLen; omega))
    have tz := Bb ht4
    clear ht4 tk
    go_wp2_with (at_builtin; refine eZ _ rfl _ _ 55 rfl tW i0 _ 1 24 Tryz.underlying55 HI.out.1 HI.out.2.1 HI.out.2.2.1 HI.out.2.2.2 rfl _ j _ rfl tz.out _ 1 _ rfl wh.out (by intro u hu; simp at hu; subst hu; rfl) (by unfold maxLen; omega) (by omega) ?_; intro ra rc w7 htx7; have wF := Bb (htx7.perm (List.Perm.swap _ _ _)).drop; clear htx7 tz wh)
    go_roundw
    case rel => exact ⟨j + 1, ra, rc, hs ++ [.slice a2 n2 c2], fr ++ [(cz c r sets).1], D3, by go_num, by omega, rfl, zF.out, zE.out, (fun u hu => by rcases List.mem_append.1 hu with h | h; exact AP.out u h; simp at h; subst h; rfl), (zc.out.mono we.out).snoc wg.out, tt.out, wF.out⟩
    case measure => simp [intOf]; omega
   ·have he2 : ((cz c r sets).2 == 0) = false := by simpa using he
    have HE := Bb he
    generalize hev : (cz c r sets).2 = ev at *
    have zG := Bb hev
    clear hev
    go_wp2_with (first | (go_at_call 113; refine wd.out.mono ?_; rintro e2 w2 ⟨a2, n2, c2, D3, rfl, hle3, -, htx3⟩; have tt := Bb (te.out.trans hle3); have tk := Bb htx3.drop; clear hle3 htx3 wd tw c0 d0 dc hcu) | (refine ax rfl _ _ _ rfl bl ba rfl [.int .i64 ev, .slice none 0 0, .int .i64 0] rfl aZ tk.out (by kernel_rfl) rfl (by intro u hu; simp at hu; rcases hu with rfl | rfl | rfl <;> rfl) ?_; intro w6 hs6; have sP := Bb hs6; clear hs6 tk))
    refine bodyPost_ret (aP rfl _ _ rfl (bB rfl (aA (sP.out.sat.blk 0 rfl)))) rfl ?_
    have hua : cp c sets rs [] = ([], ev) := ji (j + 1) HE.out (by rw [tD.out, gj r zb.out, zG.out, if_neg HE.out])
    have hall : X.all (i : Int) rs sets = (X, bY ev) := by
     unfold TxM.all
     rw [l6 HC.out, hua]
     exact if_neg HE.out
    rw [hall]
    exact ⟨none, 0, 0, D3, rfl, tt.out, RowsF.nil _, sP.out.drop⟩
  ·obtain rfl : j = N := by omega
   have hji : ¬ ((j : Int) < (j : Int)) := by omega
   have hall0 : cp c sets rs [] = (fr, 0) := by have := zb.out; rwa [List.take_of_length_le (Nat.le_of_eq HN.out)] at this
   obtain ⟨D3, hle3, hfr, htx3⟩ := kK tw.out
   have hlh : hs.length = j := by have := hfr.1; omega
   have hlf : fr.length = j := zc.out.len.symm.trans hlh
   have vp := Bb (show X.all (i : Int) rs sets = (fr.foldl (fun y r => y.put (i : Int) r) X, iU (j : Int)) by
    unfold TxM.all
    rw [l6 HC.out, hall0]
    rw [HN.out]
    rfl)
   have tn := Bb hlf
   have zv := Bb hlh
   have tt := Bb (te.out.trans hle3)
   have vy := Bb hfr
   have yI := Bb (zc.out.mono hle3)
   have tk := Bb htx3
   clear hall0 hle3 hfr htx3 hlh hlf tw zc zb
   go_wp2_with fail
   go_loopw [52] (fun idx wr => ∃ (k : Nat) (D' : PH), idx = .int .i64 k ∧ k ≤ j ∧ PH.le D3 D' ∧ TxIn B wr D' x o ((fr.take k).foldl (fun y r => y.put (i : Int) r) X) (blk ba aZ bl :: l)) (fun idx _ => j - (intOf idx).toNat)
   case atStart => exact ⟨0, D3, rfl, Nat.zero_le _, PH.le.refl _, tk.out⟩
   case round =>
    obtain ⟨k, D4, rfl, hk, hle4, htx⟩ := hrel
    have vH := Bb hle4
    have tw := Bb htx
    clear hle4 htx tk
    by_cases hlt2 : k < j
    ·obtain ⟨u, hu⟩ : ∃ u, hs[k]? = some u := ⟨hs[k]'(by rw [zv.out]; exact hlt2), List.getElem?_eq_getElem _⟩
     obtain ⟨r, hr, hur⟩ := yI.out.get hu
     obtain ⟨m', hp⟩ := np HM.out uO.out k fr xR.out yI.out.fit (by rw [tn.out]; exact hk)
     have hmem := List.mem_of_getElem? hr
     have hfits := (xR.out r hmem).1
     obtain ⟨k0, h0, hk0, hk1, _⟩ := dM hfits
     have hl4 : r.length ≤ 4 := by have h1 := cC hfits; have h2 := h1.2; unfold cH at h2; simp at h2; omega
     have vG := Bb (nU hp.tab (RowF.mono vH.out hur) h0 hk1 (by rw [i8 hp.well hfits (by rw [hp.keys]; exact (xR.out r hmem).2), hp.len]; exact yH.out) (by rw [hp.log]; omega) (by omega) tw.out)
     have u5 := Bb (show (fr.take (k + 1)).foldl (fun y r => y.put (i : Int) r) X = ((fr.take k).foldl (fun y r => y.put (i : Int) r) X).put (i : Int) r by rw [List.take_add_one, hr]; simp)
     obtain ⟨fg, fo, rfl, hcu⟩ : ∃ fg fo, fa = some ⟨fg, fo, none⟩ ∧ wr.cell? ⟨fg, fo + k, none⟩ = some u := by
      obtain ⟨_, _, ao, cap, hv, _, _, _, hcell⟩ := (vy.out.mono vH.out).rd tw.out.sat
      cases hv
      rcases hcell with h0 | ⟨g, og, hg, hcc⟩
      ·omega
      ·exact ⟨g, og, hg, hcc k u hu⟩
     have hki : (k : Int) < (j : Int) := by omega
     clear hu hr hur hp hmem hfits h0 hk0 hk1 hl4
     go_wp2_with (go_at_call 94; refine vG.out.mono ?_; rintro e2 w2 ⟨rfl, D5, hle5, htx5⟩; have vI := Bb (vH.out.trans hle5); have tu := Bb htx5; clear hle5 htx5 vG tw hcu)
     go_roundw
     case rel => exact ⟨k + 1, D5, by go_num, by omega, vI.out, by rw [u5.out]; exact tu.out⟩
     case measure => simp [intOf]; omega
    ·obtain rfl : k = j := by omega
     have hki : ¬ ((k : Int) < (k : Int)) := by omega
     have u5 := Bb (show TxIn B _ D4 x o (fr.foldl (fun y r => y.put (i : Int) r) X) (blk ba aZ bl :: l) from List.take_of_length_le (Nat.le_of_eq tn.out) ▸ tw.out)
     clear tw
     go_wp2_with (refine ax rfl _ _ _ rfl bl ba rfl [.int .i64 0, .slice none 0 0, .int .i64 (k : Int)] rfl aZ u5.out (by kernel_rfl) rfl (by intro u hu; simp at hu; rcases hu with rfl | rfl | rfl <;> rfl) ?_; intro w6 hs6; have sP := Bb hs6; clear hs6 u5)
     refine bodyPost_ret (aP rfl _ _ rfl (bB rfl (aA (sP.out.sat.blk 0 rfl)))) rfl ?_
     rw [vp.out]
     exact ⟨none, 0, 0, D4, rfl, tt.out.trans vH.out, RowsF.nil _, sP.out.drop⟩
theorem mR {B w : World} {D : PH} {x o i : Nat} {X : TxM} {l : List HP} {m : au} {c : List Bool} {k : Val} {sets : List SetM} {sv : Value} (hm : X.tabs[i]? = some m) (hc : X.cols[i]? = some c) (hI : TabI c m) (hml : m.length ≤ 200) (hset : SetsF D sv sets) (hb : X.log.length + 1 ≤ 10000) (h : TxIn B w D x o X l) :
  Calls Tryz.prog 95 #[.pointer (some ⟨x, 0, none⟩), .int .i64 i, k.v, sv] w (dR B D x o l (X.one i k sets)) := by
 obtain ⟨W0, hW0, h0⟩ := dH h k.cells.toArray aZ tV bl
 have tq := Bb (show W0 = (w.alloc (.cells #[.bool k.t, .int .i64 k.n, .string k.s] tV)).alloc (.cells aZ bl) from hW0)
 obtain ⟨t, g, og, pc, c0, d1, hpc, hget⟩ := d8 h0 hm
 have HG := Bb (hget k)
 have hlt : (i : Int) < (X.tabs.length : Int) := by have := (List.getElem?_eq_some_iff.1 hm).1; omega
 have sS := Bb h0
 have HM := Bb hm
 have HC := Bb hc
 have uO := Bb hI
 have yH := Bb hml
 have ut := Bb hset
 have HB := Bb hb
 have C0 := Bb c0
 have D1 := Bb d1
 have PC := Bb hpc
 obtain ⟨sa, sn, sc, rfl⟩ : ∃ a n c, sv = .slice a n c := by obtain ⟨_, _, ao, rc, h, _⟩ := hset.1; exact ⟨ao, _, rc, h⟩
 generalize hTN : X.tabs.length = TN at *
 clear h hm hc hI hml hset hb hW0 h0 c0 d1 hpc hget hTN
 go_enter Tryz.func95, Tryz.ntmps95
 go_upto_region 1 with fail
 rw [← tq.out]
 clear tq
 generalize w.heap.size + 1 = ba at sS ⊢
 generalize w.heap.size = bk at sS ⊢
 obtain ⟨x0, x1, x2, xf⟩ := aS (show W0.heap[bk]? = some (.cells #[.bool k.t, .int .i64 k.n, .string k.s] tV (0, 0)) from sS.out.sat.blk 1 rfl)
 have c0 := C0.out
 have d1 := D1.out
 have hpc := PC.out
 refine af [(0, false, 11), (1, false, 11), (2, false, 11), (3, false, 11), (4, false, 11), (5, false, 11), (6, false, 11), (7, false, 11), (8, false, 11), (9, false, 11), (10, false, 11), (11, true, 0), (12, false, 999), (13, false, 999), (14, false, 999), (15, false, 999), (16, false, 999)] (by kernel_rfl) (by kernel_rfl) ?_
 iterate 11 (refine ae rfl rfl (fun K hK => ?_); go_simp; refine hK _ ?_; clear hK K)
 refine ag rfl ?_
 refine am rfl (fun K hK => ?_)
 go_simp
 refine HG.out.mono ?_
 rintro e1 w1 ⟨ra, rn, rc, rfl, hrow, hk1⟩
 have vO := Bb hrow
 have sK := Bb (sS.out.kept hk1)
 clear hk1 hrow sS HG c0 d1 hpc x0 x1 x2 xf C0 D1 PC
 refine hK _ _ ?_
 clear hK K
 refine wpList_nil ?_
 refine And.intro ?_ ?_
 ·go_simp
 iterate 5 (refine ae rfl rfl (fun K hK => ?_); go_simp; refine hK _ ?_; clear hK K)
 refine ah ?_
 cases hf : aX m k with
 | none =>
  have HE := Bb (show X.one (i : Int) k sets = (X, bY 61) by unfold TxM.one; rw [fK HM.out, hf])
  clear hf
  go_wp2_with (refine ax rfl _ _ _ rfl bl ba rfl [.int .i64 61, .slice none 0 0, .int .i64 0] rfl aZ sK.out (by kernel_rfl) rfl (by intro u hu; simp at hu; rcases hu with rfl | rfl | rfl <;> rfl) ?_; intro w6 hs6; have sP := Bb hs6; clear hs6 sK)
  refine bodyPost_ret (aP rfl _ _ rfl (bB rfl (aA (sP.out.sat.blk 0 rfl)))) rfl ?_
  rw [HE.out]
  exact ⟨none, 0, 0, D, rfl, PH.le.refl _, RowsF.nil _, sP.out.drop.drop⟩
 | some r =>
  have HE := Bb (show X.one (i : Int) k sets = X.all (i : Int) [r] sets by unfold TxM.one; rw [fK HM.out, hf])
  obtain ⟨hmem, hkey⟩ := dJ hf
  have hro : RowF D (.slice ra rn rc) r := by have := vO.out; rw [hf] at this; exact this
  obtain ⟨D2, hle2, hrw2, htx2⟩ := nF sK.out hro
  have tj := Bb hle2
  have vp := Bb (nJ HM.out HC.out uO.out yH.out (rs := [r]) (fun q hq => by
   obtain rfl := List.mem_singleton.1 hq
   exact ⟨uO.out.fits _ hmem, by rw [hkey, hf]; rfl⟩) hrw2 (ut.out.mono hle2) (by simp) (by simpa using HB.out) htx2)
  clear hf hmem hkey hro hle2 hrw2 htx2 vO sK
  go_wp2_with (first | (go_at_call 97; refine vp.out.mono ?_; rintro e2 w2 ⟨a2, n2, c2, D3, rfl, hle3, hrw3, htx3⟩; have tt := Bb (tj.out.trans hle3); have wg := Bb hrw3; have tk := Bb htx3; clear hle3 hrw3 htx3 vp) | (refine ax rfl _ _ _ rfl bl ba rfl [_, .slice a2 n2 c2, _] rfl aZ tk.out (by kernel_rfl) rfl (by intro u hu; simp at hu; rcases hu with rfl | rfl | rfl <;> rfl) ?_; intro w6 hs6; have sP := Bb hs6; clear hs6 tk))
  refine bodyPost_ret (aP rfl _ _ rfl (bB rfl (aA (sP.out.sat.blk 0 rfl)))) rfl ?_
  rw [HE.out]
  exact ⟨a2, n2, c2, D3, rfl, tt.out, wg.out, sP.out.drop.drop⟩
theorem mX {B w : World} {D : PH} {x o i : Nat} {X : TxM} {l : List HP} {m : au} {c : List Bool} {e : StmE} {s : StmM} (hs : StmOk D e s) (hi : s.table = (i : Int)) (hm : X.tabs[i]? = some m) (hc : X.cols[i]? = some c) (hI : TabI c m) (hml : m.length ≤ 200) (hb : X.log.length + 1 ≤ 10000) (h : TxIn B w D x o X l) :
  Calls Tryz.prog 72 #[.pointer (some ⟨x, 0, none⟩), .agg e.cells.toArray] w (dR B D x o l (X.one s.table s.key s.sets)) := by
 obtain ⟨W0, hW0, h2⟩ := dH h e.cells.toArray aZ tSt bl
 have tq := Bb hW0
 have HP := Bb (mR (k := s.key) hm hc hI hml hs.sets hb h2)
 rw [← hi] at HP
 have sS := Bb h2
 have uy := Bb hs.table
 have yG := Bb hs.key
 clear h hs hi hm hc hI hml hb hW0 h2
 go_enter Tryz.func72, Tryz.ntmps72
 go_upto_region 1 with fail
 rw [← tq.out]
 clear tq
 generalize w.heap.size + 1 = ba at sS HP ⊢
 generalize w.heap.size = bs at sS HP ⊢
 obtain ⟨x0, x2, x3, x4, x5, x6, x7, x17, x18, x19⟩ := bK (sS.out.sat.blk 1 rfl)
 rw [uy.out] at x2
 rw [yG.out] at x3 x4 x5
 go_wp2_with (first | (go_at_call 95; refine HP.out.mono ?_; rintro e2 w2 ⟨ra, rn, rc, D2, rfl, hle, hrw, hs2⟩; have te := Bb hle; have tZ := Bb hrw; have sR := Bb hs2; clear hle hrw hs2 HP sS x0 x2 x3 x4 x5 x6 x7 x17 x18 x19) | (refine ax rfl _ _ _ rfl bl ba rfl [_, .slice ra rn rc, _] rfl aZ sR.out (by kernel_rfl) rfl (by intro u hu; simp at hu; rcases hu with rfl | rfl | rfl <;> rfl) ?_; intro w6 hs6; have sP := Bb hs6; clear hs6 sR))
 refine bodyPost_ret (aP rfl _ _ rfl (bB rfl (aA (sP.out.sat.blk 0 rfl)))) rfl ?_
 exact ⟨ra, rn, rc, D2, rfl, te.out, tZ.out, sP.out.drop.drop⟩
abbrev rK : TypeId := 94
theorem CurE.one (c : CurE) : ∀ u ∈ c.cells, u.oneCell' = true := by
 intro u hu
 simp [CurE.cells, PredE.cells, Spn.cells, Val.cells] at hu
 rcases hu with rfl | rfl | rfl | rfl | rfl | rfl | rfl | rfl | rfl | rfl | rfl | rfl | rfl | rfl | rfl | rfl | rfl | rfl | rfl | rfl | rfl | rfl | rfl | rfl | rfl | rfl | rfl <;> rfl
theorem mv (A L cs : List Value) (off : Nat) : lay (A ++ L) (A.length + off) cs = A ++ lay L off cs := by
 unfold lay
 rw [List.take_append, List.take_of_length_le (by omega), show A.length + off - A.length = off by omega, List.drop_append, List.drop_of_length_le (l := A) (by omega), show A.length + off + cs.length - A.length = off + cs.length by omega]
 simp
theorem nI (o : Nat) (lv : Value) {sv : List Int} (cs : List CurE) (hs : sv.length = 4) {n : Nat} (hn : n < cs.length) (c : CurE) : lay (aN o lv sv cs).toList (6 + n * 27) c.cells = (aN o lv sv (cs.set n c)).toList := by
 have e : ∀ cs : List CurE, (aN o lv sv cs).toList = ((.pointer (some ⟨o, 0, none⟩) :: lv :: sv.map (Value.int .i64)) ++ cs.flatMap CurE.cells) := fun cs => rfl
 rw [e, e, show 6 + n * 27 = (Value.pointer (some ⟨o, 0, none⟩) :: lv :: sv.map (Value.int .i64)).length + n * 27 by simp [hs], mv, ol CurE.len hn]
theorem fV (o : Nat) (lv : Value) {sv : List Int} {cs : List CurE} (hs : sv.length = 4) {n j : Nat} {c : CurE} {v : Value} (hn : cs[n]? = some c) (hj : c.cells[j]? = some v) : (aN o lv sv cs)[6 + (n * 27 + j)]? = some v := by
 have e : (aN o lv sv cs) = ((.pointer (some ⟨o, 0, none⟩) :: lv :: sv.map (Value.int .i64)) ++ cs.flatMap CurE.cells).toArray := rfl
 rw [e, List.getElem?_toArray, List.getElem?_append_right (by simp [hs])]
 simp only [List.length_cons, List.length_map, hs]
 rw [show 6 + (n * 27 + j) - (4 + 1 + 1) = n * 27 + j by omega]
 exact bM CurE.len cs n c hn j v hj
section
variable {B w : World} {D : PH} {x o n : Nat} {X : TxM} {l : List HP} {m : CurM}
theorem sr (h : TxIn B w D x o X l) (hm : X.curs[n]? = some m) : ∃ c : CurE, nB D c m ∧ (∀ j v, c.cells[j]? = some v → w.cell? ⟨x, 6 + (n * 27 + j), none⟩ = some v) ∧ ∀ j, w.frozen? ⟨x, j, none⟩ = false := by
 obtain ⟨H, hH, hs⟩ := h
 have hl : n < H.cs.length := by rw [hH.curs.len]; exact (List.getElem?_eq_some_iff.1 hm).1
 have hc : H.cs[n]? = some H.cs[n] := List.getElem?_eq_getElem hl
 obtain ⟨m', hm', hok⟩ := hH.curs.get hc
 rw [hm] at hm'
 cases hm'
 have hb := hs.blk 0 rfl
 refine ⟨H.cs[n], hok, fun j v hj => ?_, fun j => by simp [World.frozen?, hb]⟩
 simp only [World.cell?, hb]
 exact fV o H.lv hH.saves hc hj
theorem eX {P : Program} {ops : Array Oper} {rest : List Oper} {oo : Oper} {a : Act} {Q : Exit → Act → World → Prop} (hgd : oo.guard = none) (ty : TypeId) (xo yo : Operand) (ho : oo.op = .store ty xo yo) (off : Nat) (hx : a.eval xo = .pointer (some ⟨x, off, none⟩)) (hoff : off = 6 + n * 27) (c : CurE) (hy : a.eval yo = .agg c.cells.toArray)
  (hs : TxIn B w D x o X l) (hn : n < 3) (hok : nB D c m) (hi : (P.info? ty).map (·.size) = some 27)
  (h : ∀ w', TxIn B w' D x o { X with curs := X.curs.set n m } l → wpList P ops Q rest (a.put oo.dst undef) w') : wpList P ops Q (oo :: rest) a w := by
 subst hoff
 obtain ⟨H, hH, hs⟩ := hs
 have hl : n < H.cs.length := by rw [hH.curs.len, hH.three]; exact hn
 refine dB hgd ty xo yo ho tTx x (6 + n * 27) hx c.cells hy (aN o H.lv X.saves H.cs).toList (by rw [Array.toArray_toList]; exact hs) (by rw [CurE.len]; exact hi) ?_ (CurE.one c) (fun w' hs' => h w' ?_)
 ·rw [CurE.len]
  have e : (aN o H.lv X.saves H.cs).toList.length = 6 + H.cs.length * 27 := by
   show ((.pointer (some ⟨o, 0, none⟩) :: H.lv :: (X.saves.map (Value.int .i64) ++ H.cs.flatMap CurE.cells)) : List Value).length = _
   rw [List.length_cons, List.length_cons, List.length_append, List.length_map, hH.saves, bW CurE.len]
   omega
  rw [e]
  omega
 ·rw [nI o H.lv H.cs hH.saves hl c] at hs'
  exact ⟨⟨H.lv, H.es, H.cs.set n c⟩, ⟨hH.log, hH.curs.set hok n, hH.saves, by rw [List.length_set]; exact hH.three, hH.small⟩, by rw [Array.toArray_toList] at hs'; exact hs'⟩
end
def TxM.close (X : TxM) (s : StmM) : TxM × AnsM := if (X.cur s.cursor).opn then (X.setCur s.cursor kW, bY 0) else (X, bY 161)
def eM : CurE := ⟨false, false, false, 0, ⟨0, 0, ⟨false, 0, ⟨#[]⟩⟩, ⟨false, 0, ⟨#[]⟩⟩, none, 0, 0, []⟩, bU, ⟨false, 0, ⟨#[]⟩⟩⟩
theorem il (D : PH) : nB D eM kW := ⟨rfl, rfl, rfl, rfl, rfl, rfl, rfl, .mk _ [] (RdP.nil _ _) (by simp)⟩
theorem l9 {X : TxM} {n : Nat} {m : CurM} (h : X.curs[n]? = some m) : X.cur (n : Int) = m := by
 unfold TxM.cur
 rw [Int.toNat_natCast, List.getD_eq_getElem?_getD, h]; rfl
theorem oW {B w : World} {D : PH} {x o n : Nat} {X : TxM} {l : List HP} {e : StmE} {s : StmM} {m : CurM} (hs : StmOk D e s) (hi : s.cursor = (n : Int)) (hn : n < 3) (hm : X.curs[n]? = some m) (h : TxIn B w D x o X l) :
  Calls Tryz.prog 79 #[.pointer (some ⟨x, 0, none⟩), .agg e.cells.toArray] w (dR B D x o l (X.close s)) := by
 obtain ⟨W0, hW0, h2⟩ := dH h e.cells.toArray aZ tSt bl
 have tq := Bb hW0
 obtain ⟨c, hc, hcell, cf⟩ := sr h2 hm
 have d0 := hcell 0 _ rfl
 rw [Nat.add_zero] at d0
 have sS := Bb h2
 have wI := Bb (show e.cursor = (n : Int) from hs.cursor.trans hi)
 have vL := Bb (show X.close s = if m.opn then ({ X with curs := X.curs.set n kW }, bY 0) else (X, bY 161) by unfold TxM.close; rw [hi, l9 hm]; rfl)
 have uN := Bb hc.1
 have D0 := Bb d0
 have CF := Bb cf
 have hn3 : (n : Int) < 3 := by omega
 have HN := Bb hn
 clear h hs hi hW0 h2 hcell hc hm d0 cf
 go_enter Tryz.func79, Tryz.ntmps79
 go_upto_region 1 with fail
 rw [← tq.out]
 clear tq
 generalize w.heap.size + 1 = ba at sS ⊢
 generalize w.heap.size = bs at sS ⊢
 obtain ⟨x0, x2, x3, x4, x5, x6, x7, x17, x18, x19⟩ := bK (sS.out.sat.blk 1 rfl)
 rw [wI.out] at x18
 have d0 := D0.out
 refine af [(0, false, 999), (1, false, 999), (2, false, 999), (3, false, 999), (4, false, 999), (5, false, 999), (6, false, 999), (7, false, 999), (8, false, 999)] (by kernel_rfl) (by kernel_rfl) ?_
 iterate 9 (refine ae rfl rfl (fun K hK => ?_); go_simp; refine hK _ ?_; clear hK K)
 refine ah ?_
 have sK := Bb (sS.out.kept (Kept.refl (fun _ => False) W0).drew)
 clear sS d0 D0 CF x0 x2 x3 x4 x5 x6 x7 x17 x18 x19
 generalize W0.drew = W1 at sK ⊢
 cases hop : m.opn with
 | false =>
  rw [uN.out, hop]
  have HE := Bb (show X.close s = (X, bY 161) by rw [vL.out, hop]; rfl)
  clear hop
  go_wp2_with (refine ax rfl _ _ _ rfl bl ba rfl [.int .i64 161, .slice none 0 0, .int .i64 0] rfl aZ sK.out (by kernel_rfl) rfl (by intro u hu; simp at hu; rcases hu with rfl | rfl | rfl <;> rfl) ?_; intro w6 hs6; have sP := Bb hs6; clear hs6 sK)
  refine bodyPost_ret (aP rfl _ _ rfl (bB rfl (aA (sP.out.sat.blk 0 rfl)))) rfl ?_
  rw [HE.out]
  exact ⟨none, 0, 0, D, rfl, PH.le.refl _, RowsF.nil _, sP.out.drop.drop⟩
 | true =>
  rw [uN.out, hop]
  have HE := Bb (show X.close s = ({ X with curs := X.curs.set n kW }, bY 0) by rw [vL.out, hop]; rfl)
  clear hop
  obtain ⟨x0, x2, x3, x4, x5, x6, x7, x17, x18, x19⟩ := bK (sK.out.sat.blk 1 rfl)
  rw [wI.out] at x18
  go_upto_region 3 with fail
  refine af [(0, false, 7), (1, false, 7), (2, false, 7), (3, false, 7), (4, false, 7), (5, false, 7), (6, false, 7), (7, true, 0)] (by kernel_rfl) (by kernel_rfl) ?_
  iterate 7 (refine ae rfl rfl (fun K hK => ?_); go_simp; refine hK _ ?_; clear hK K)
  refine ag rfl ?_
  refine eX (n := n) rfl _ _ _ rfl _ rfl rfl eM rfl (sK.out.kept (Kept.refl (fun _ => False) W1).drew) HN.out (il D) (by kernel_rfl) ?_
  intro w3 htx3
  refine wpList_nil ?_
  have sO := Bb htx3
  clear htx3 sK x0 x2 x3 x4 x5 x6 x7 x17 x18 x19
  refine And.intro ?_ ?_
  ·go_simp
  refine ah ?_
  go_wp2_with (refine ax rfl _ _ _ rfl bl ba rfl [.int .i64 0, .slice none 0 0, .int .i64 0] rfl aZ sO.out (by kernel_rfl) rfl (by intro u hu; simp at hu; rcases hu with rfl | rfl | rfl <;> rfl) ?_; intro w6 hs6; have sP := Bb hs6; clear hs6 sO)
  refine bodyPost_ret (aP rfl _ _ rfl (bB rfl (aA (sP.out.sat.blk 0 rfl)))) rfl ?_
  rw [HE.out]
  exact ⟨none, 0, 0, D, rfl, PH.le.refl _, RowsF.nil _, sP.out.drop.drop⟩
def TxM.opens (X : TxM) (s : StmM) : TxM × AnsM := (X.setCur s.cursor ⟨true, s.change, false, s.table, s.pred, bU, default⟩, bY 0)
theorem cY {w : World} {b : Nat} {x : StmE} {t : TypeId} {fr : Nat × Nat} (h : w.heap[b]? = some (.cells x.cells.toArray t fr)) :
  w.cell? ⟨b, 8, none⟩ = some (.int .i64 x.pe.op) ∧ w.cell? ⟨b, 9, none⟩ = some (.int .i64 x.pe.col) ∧ w.cell? ⟨b, 10, none⟩ = some (.bool x.pe.v.t) ∧ w.cell? ⟨b, 11, none⟩ = some (.int .i64 x.pe.v.n) ∧ w.cell? ⟨b, 12, none⟩ = some (.string x.pe.v.s) ∧
   w.cell? ⟨b, 13, none⟩ = some (.bool x.pe.w.t) ∧ w.cell? ⟨b, 14, none⟩ = some (.int .i64 x.pe.w.n) ∧ w.cell? ⟨b, 15, none⟩ = some (.string x.pe.w.s) ∧ w.cell? ⟨b, 16, none⟩ = some (.slice x.pe.la x.pe.ln x.pe.lc) := by
 refine ⟨?_, ?_, ?_, ?_, ?_, ?_, ?_, ?_, ?_⟩ <;> simp [World.cell?, h, StmE.cells]
def curE1 (e : StmE) : CurE := ⟨true, e.change, false, e.table, e.pe, bU, ⟨false, 0, ⟨#[]⟩⟩⟩
theorem qE {B w : World} {D : PH} {x o n : Nat} {X : TxM} {l : List HP} {e : StmE} {s : StmM} (hs : StmOk D e s) (hi : s.cursor = (n : Int)) (hn : n < 3) (h : TxIn B w D x o X l) :
  Calls Tryz.prog 77 #[.pointer (some ⟨x, 0, none⟩), .agg e.cells.toArray] w (dR B D x o l (X.opens s)) := by
 obtain ⟨W0, hW0, h2⟩ := dH h e.cells.toArray aZ tSt bl
 have tq := Bb hW0
 have sS := Bb h2
 have wI := Bb (show e.cursor = (n : Int) from hs.cursor.trans hi)
 have vL := Bb (show X.opens s = ({ X with curs := X.curs.set n ⟨true, s.change, false, s.table, s.pred, bU, default⟩ }, bY 0) by unfold TxM.opens; rw [hi]; rfl)
 have uf := Bb (show nB D (curE1 e) ⟨true, s.change, false, s.table, s.pred, bU, default⟩ from ⟨rfl, hs.change, rfl, hs.table, hs.pred, rfl, rfl, hs.subs⟩)
 have hn3 : (n : Int) < 3 := by omega
 have HN := Bb hn
 clear h hs hi hW0 h2
 go_enter Tryz.func77, Tryz.ntmps77
 go_upto_region 1 with fail
 rw [← tq.out]
 clear tq
 generalize w.heap.size + 1 = ba at sS ⊢
 generalize w.heap.size = bs at sS ⊢
 obtain ⟨x0, x2, x3, x4, x5, x6, x7, x17, x18, x19⟩ := bK (sS.out.sat.blk 1 rfl)
 rw [wI.out] at x18
 obtain ⟨z0, z1, z2, z3, z4, z5, z6, z7, z8⟩ := cY (sS.out.sat.blk 1 rfl)
 refine af [(0, false, 13), (1, false, 13), (2, false, 13), (3, false, 13), (4, false, 13), (5, false, 13), (6, false, 13), (7, false, 13), (8, false, 13), (9, false, 13), (10, false, 13), (11, false, 13), (12, false, 13), (13, true, 0)] (by kernel_rfl) (by kernel_rfl) ?_
 iterate 13 (refine ae rfl rfl (fun K hK => ?_); go_simp; refine hK _ ?_; clear hK K)
 refine ag rfl ?_
 refine eX (n := n) rfl _ _ _ rfl _ rfl rfl (curE1 e) rfl (sS.out.kept (Kept.refl (fun _ => False) W0).drew) HN.out uf.out (by kernel_rfl) ?_
 intro w3 htx3
 refine wpList_nil ?_
 have sO := Bb htx3
 clear htx3 sS x0 x2 x3 x4 x5 x6 x7 x17 x18 x19 z0 z1 z2 z3 z4 z5 z6 z7 z8
 refine And.intro ?_ ?_
 ·go_simp
 refine ah ?_
 go_wp2_with (refine ax rfl _ _ _ rfl bl ba rfl [.int .i64 0, .slice none 0 0, .int .i64 0] rfl aZ sO.out (by kernel_rfl) rfl (by intro u hu; simp at hu; rcases hu with rfl | rfl | rfl <;> rfl) ?_; intro w6 hs6; have sP := Bb hs6; clear hs6 sO)
 refine bodyPost_ret (aP rfl _ _ rfl (bB rfl (aA (sP.out.sat.blk 0 rfl)))) rfl ?_
 rw [vL.out]
 exact ⟨none, 0, 0, D, rfl, PH.le.refl _, RowsF.nil _, sP.out.drop.drop⟩
end Go.Proofs.YtdobimafhbfkhaaGreat
