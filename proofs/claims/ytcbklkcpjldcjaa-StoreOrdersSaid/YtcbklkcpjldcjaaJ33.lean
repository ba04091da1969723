/- Joined texts: Of rows: a box whose row's elements own rows of their own; what a scan may read. The store: what the statements' own rows tells. -/
import Derived.Test.YtcbklkcpjldcjaaJ32
/- Of rows: a box whose row's elements own rows of their own; what a scan may read. -/
namespace Go.Proofs.Ytcbklkcpjldcjaa
open Go.ChangeShapes Go.WideShapes Go.ChangeAt Go.RowKit
set_option maxRecDepth 100000
set_option linter.unusedSimpArgs false

section
variable {B w W W' wa : World} {D : PH} {l L X : List HP}
/-- things that are held beside a world that is held -/
theorem Sat.over (hs : Sat B D wa L) (h : Sat wa (heapOf wa) W X) : Sat B D W (X ++ L) := by
  obtain ⟨h1, h2, a, b, c, d, e⟩ := h.holds
  have p1 := hs.holds.mono d
  have p2 := Holds.app (fun x => (a x).symm) c b e p1
  exact ⟨h.os.trans hs.os, h.tape.trans hs.tape, h.output.trans hs.output, Nat.le_trans hs.size h.size, p2.perm List.perm_middle⟩
/-- what is held abides the turn of a block that is no cells -/
theorem Sat.grown (hs : Sat wa (heapOf wa) W X) (hX : ∀ A ∈ X, InCells A) {row : Option Nat} (hg : W.grownBy W' row) (hr : ∀ r, row = some r → wa.heap.size ≤ r ∧ ∃ o : Obj, W.heap[r]? = some o ∧ o.isCells = false) : Sat wa (heapOf wa) W' X := by
  obtain ⟨h1, h2, a, b, c, d, e⟩ := hs.holds
  refine ⟨hg.os.trans hs.os, hg.tape.trans hs.tape, hg.output.trans hs.output, Nat.le_trans hs.size hg.size, heapOf wa, cellsOf h2, fun x => ?_, fun x o hx => ?_, fun x o hx => ?_, PH.le.refl _, Holds.inCells hX e⟩
  · cases hx : heapOf wa x with
    | none => exact .inl rfl
    | some o =>
      rcases a x with h | h
      · rw [d x o hx] at h; cases h
      · exact .inr (cellsOf_none h)
  · have hW := b x o (d x o hx)
    exact (hg.block x (lt_of_heap hW) (fun e2 => by have := (hr x e2.symm).1; have := lt_of_heap hx; omega)).trans hW
  · obtain ⟨cs, t, fr, rfl⟩ := cellsOf_cells hx
    have hW := c x _ (cellsOf_le _ _ _ hx)
    refine (hg.block x (lt_of_heap hW) (fun e2 => ?_)).trans hW
    obtain ⟨_, o, ho, hc⟩ := hr x e2.symm
    have hW2 : W.heap[x]? = some (.cells cs t fr) := hW
    rw [hW2] at ho
    cases ho
    cases hc
variable {bo : Nat} {tb e : TypeId} {size n n' : Nat} {v v' : Value} {xs xs' : List Value}
theorem satBoxRow (hs : Sat B D W (blk bo #[v] tb :: ownS e size v n xs :: l)) : BoxRow W bo tb e size v n xs := by
  refine ⟨hs.blk 0 rfl, hs.own 1 rfl, fun hb => ?_⟩
  obtain ⟨h1, h2, a, b, c, d, e0⟩ := hs.holds.swap
  obtain ⟨m1, m2, m3, m4, m5, m6, m7⟩ := Holds.swap e0
  rcases a bo with g | g
  · exact absurd (d.symm.trans g) (by simp)
  · rcases m6.2.2 with ⟨q, _⟩ | ⟨g', cap, cur, q1, q2, _⟩
    · rw [q] at hb; cases hb
    · rw [q1] at hb
      have : g' = bo := by simpa [Value.ownBlock] using hb
      subst this
      have := m4 _ _ q2
      rw [g] at this; cases this
/-- a step of a box and its row, among what is held -/
theorem satBoxStep {D1 : PH} {l' : List HP} (hs : Sat B D W (blk bo #[v] tb :: ownS e size v n xs :: l)) (hD : ∀ k o, D1 k = some o ↔ (¬ OwB bo W k ∧ heapOf W k = some o)) (hs' : Sat W D1 W' (blk bo #[v'] tb :: ownS e size v' n' xs' :: l')) :
    Sat B D W' (blk bo #[v'] tb :: ownS e size v' n' xs' :: l) := by
  have hbr := satBoxRow hs
  obtain ⟨hbr', -, -, hk, hback⟩ := hbr.back hD hs'
  have hg : Sat B D W (group [blk bo #[v] tb, ownS e size v n xs] :: l) := Sat.togroup (L := [blk bo #[v] tb, ownS e size v n xs]) hs
  have hin : ∀ h1 : PH, group [blk bo #[v] tb, ownS e size v n xs] h1 → ∀ k, OwB bo W k → h1 k ≠ none := by
    intro h1 hA k hk hn
    obtain ⟨g1, g2, a, b, c, d, e0⟩ := hA
    obtain ⟨m1, m2, a2, b2, c2, d2, _⟩ := e0
    rcases hbr.ow hk with rfl | hk
    · have := b _ _ d
      rw [hn] at this; cases this
    · rcases d2.2.2 with ⟨q, _⟩ | ⟨g', cap, cur, q1, q2, _⟩
      · rw [q] at hk; cases hk
      · rw [q1] at hk
        have : g' = k := by simpa [Value.ownBlock] using hk
        subst this
        have := c _ _ (b2 _ _ q2)
        rw [hn] at this; cases this
  refine Sat.ungroup (L := [blk bo #[v'] tb, ownS e size v' n' xs']) (hg.step (A' := group [blk bo #[v'] tb, ownS e size v' n' xs']) (fun h1 _ hA => ⟨⟨hk.os, hk.tape, hk.output, hk.size, fun k hlt hn => hk.block k hlt (fun ho => hn (hin h1 hA k ho))⟩, ?_⟩))
  obtain ⟨D2, hD2, hs2⟩ := hbr'.sat
  obtain ⟨p1, p2, a, b, c, d, e0⟩ := hs2.holds
  refine ⟨p2, c, e0, fun k o hko => ?_⟩
  have hown : OwB bo W' k := Classical.byContradiction fun hno => by
    have h3 := d k o ((hD2 k o).2 ⟨hno, c k o hko⟩)
    rcases a k with h | h
    · rw [h] at h3; cases h3
    · rw [h] at hko; cases hko
  rcases hback k hown with h | h
  · exact .inl (hin h1 hA k h)
  · exact .inr h
end

def rowP (x : RowE) : HP := ownS tV 3 x.v x.row.length (x.row.flatMap Val.cells)
/-- rows that were told, all of one's own -/
def rowsP (v : Value) (rs : List (List Val)) : HP := exP (fun xs : List RowE => xs.map RowE.row = rs) (fun xs => [ownS tR 1 v xs.length (xs.map RowE.v), group (xs.map rowP)])
def scanA (A : StM) (i : Int) (sp : Spn) : List (List Val) := ((A.tab i).filter (fun p => spanIn sp p.1 && !p.2.kept)).map (fun p => p.2.row)
theorem scan_told (m : TabM) (sp : Spn) : toldN (m.filter (fun p => spanIn sp p.1)) (m.filter (fun p => spanIn sp p.1)).length = (m.filter (fun p => spanIn sp p.1 && !p.2.kept)).map (fun p => p.2.row) := by
  unfold toldN
  rw [List.take_length, List.filter_filter]
  congr 1
  exact List.filter_congr (fun p _ => by rw [Bool.and_comm])
theorem scan_bare {M : StM} {i : Int} {sp : Spn} : scanA M.bare i sp = scanA M i sp := by
  unfold scanA
  rw [bare_tab]
  unfold bareT
  rw [List.filter_map, List.map_map]
  rfl

/-- what a scan may read -/
theorem scanY_of {B wa : World} {D E : PH} {s n j : Nat} {M : StM} {x : StH} {m : TabM} {l : List HP} (sp : Spn) (hx : StOk M x) (hm : M.tabs[j]? = some m) (hrow : ∀ q ∈ m, q.2.row.length ≤ 1000) (h : Sat B D wa (stL s n M x ++ l)) (hE : PH.le (cellsOf (heapOf wa)) E) :
    ∃ t pn g og pc T, ScanY E x.pv (j : Int) sp (m.filter (fun p => spanIn sp p.1)) j t pn g og pc T := by
  have hlt := (List.getElem?_eq_some_iff.1 hm).1
  obtain ⟨t, g, og, pc, ht, hpv, hpc⟩ := st_ptr hx hm h
  obtain ⟨T, ⟨hG, hSm⟩, hsT⟩ := Sat.open_ex (st_focus hm ht h)
  have hpool := (treeOpen hsT).pool hE
  refine ⟨t, M.tabs.length, g, og, pc, T, rfl, hpv, hlt, fun W hW => ?_, hpool, ?_, fun q hq => ⟨hrow q (List.mem_filter.1 hq).1, fun W hW => ?_⟩⟩
  · have hf := (Sat.front h 3 rfl)
    have h2 := Sat.inPool (l := [ownS tPt 1 x.pv M.tabs.length (x.ts.map ptrV)]) hf (fun A hA => by simp at hA; subst hA; exact inCells_own _ _ _ _ _) hE hW
    have h3 := (h2.own 0 rfl).rd.2.2
    rw [hpv] at h3
    rcases h3 with ⟨ao2, cap2, hq, _, _, _, hcell⟩
    cases hq
    rcases hcell with h0 | ⟨g', o', hg, hcc⟩
    · omega
    · cases hg
      exact hcc j _ (by rw [List.getElem?_map, ht]; rfl)
  · have := hG.tells sp
    rw [tl_inS] at this
    exact this
  · obtain ⟨j2, hj2⟩ := List.mem_iff_getElem?.1 (List.mem_filter.1 hq).1
    have hj3 : (m.map plP)[j2]? = some (plP q) := by rw [List.getElem?_map, hj2]; rfl
    have h3 := (Sat.drop (A := treeG t T) hsT).ungroup
    have h4 := Sat.inPool (l := m.map plP) h3 (fun A hA => by obtain ⟨p, _, rfl⟩ := List.mem_map.1 hA; exact inCells_own _ _ _ _ _) hE hW
    exact (Sat.own h4 j2 hj3).rd
end Go.Proofs.Ytcbklkcpjldcjaa

/- The store: what the statements' own rows tells. -/
namespace Go.Proofs.Ytcbklkcpjldcjaa
open Go.ChangeShapes Go.WideShapes Go.ChangeAt Go.RowKit
set_option maxRecDepth 100000
set_option linter.unusedSimpArgs false
attribute [local go_sem] Oper.semAt_some

theorem infoR : (Try.prog.info? tR).map (fun i => (i.zero, i.size, i.bytes)) = some (some (.slice none 0 0), 1, 24) := by kernel_rfl
theorem inCells_rowP (x : RowE) : InCells (rowP x) := inCells_own _ _ _ _ _
theorem inCells_rows (pre : List RowE) : InCells (group (pre.map rowP)) := inCells_group (fun A hA => by obtain ⟨x, _, rfl⟩ := List.mem_map.1 hA; exact inCells_rowP x)
/-- the rows so far, in a box -/
def BoxRows (wa : World) (bo : Nat) (pre : List RowE) (W : World) : Prop := ∃ v, Sat wa (heapOf wa) W [blk bo #[v] tRs, ownS tR 1 v pre.length (pre.map RowE.v), group (pre.map rowP)]
def BoxRowsN (wa : World) (bo : Nat) (p : List RowE × RowE) (W : World) : Prop := p.1.length < 1000 ∧ ∃ v, Sat wa (heapOf wa) W [blk bo #[v] tRs, ownS tR 1 v p.1.length (p.1.map RowE.v), rowP p.2, group (p.1.map rowP)]
section
variable {wa W W' : World} {bo k : Nat} {pre : List RowE} {x : RowE} {row : Option Nat}
theorem BoxRows.ownFrom (hk : wa.heap.size ≤ k) : OwnFrom k (BoxRows wa bo) := by
  rintro pre X Y row ⟨v, hs⟩ hg hr
  refine ⟨v, hs.grown (fun A hA => ?_) hg (fun r e => ⟨Nat.le_trans hk (hr r e).1, (hr r e).2⟩)⟩
  simp only [List.mem_cons, List.not_mem_nil, or_false] at hA
  rcases hA with rfl | rfl | rfl
  · exact inCells_blk _ _ _
  · exact inCells_own _ _ _ _ _
  · exact inCells_rows _
theorem BoxRowsN.ownFrom (hk : wa.heap.size ≤ k) : OwnFrom k (BoxRowsN wa bo) := by
  rintro ⟨pre, x⟩ X Y row ⟨hl, v, hs⟩ hg hr
  refine ⟨hl, v, hs.grown (fun A hA => ?_) hg (fun r e => ⟨Nat.le_trans hk (hr r e).1, (hr r e).2⟩)⟩
  simp only [List.mem_cons, List.not_mem_nil, or_false] at hA
  rcases hA with rfl | rfl | rfl | rfl
  · exact inCells_blk _ _ _
  · exact inCells_own _ _ _ _ _
  · exact inCells_rowP _
  · exact inCells_rows _
theorem BoxRows.new (h : BoxRows wa bo pre W) (hk : Kept (fun _ => False) W W') (hx : NewRow x W W') (hl : pre.length < 1000) : BoxRowsN wa bo (pre, x) W' := by
  obtain ⟨v, hs⟩ := h
  exact ⟨hl, v, (hs.own_new hk hx.1 hx.2).rot⟩
end
theorem le_sum : ∀ {L : List Nat} {x : Nat}, x ∈ L → x ≤ L.sum
  | [], _, h => by cases h
  | a :: L, x, h => by
    rw [List.sum_cons]
    rcases List.mem_cons.1 h with rfl | h
    · omega
    · have := le_sum h; omega
theorem nodup_len {F : TabM} {pre : List RowE} {x : RowE} (h : (pre ++ [x]).map RowE.row <+: toldN F F.length) (hF : F.length < 1000) : pre.length < 1000 := by
  have h1 := h.length_le
  have h2 : (toldN F F.length).length ≤ F.length := by
    unfold toldN
    rw [List.length_map]
    exact Nat.le_trans (List.length_filter_le _ _) (by rw [List.take_length]; omega)
  simp at h1
  omega

set_option maxHeartbeats 8000000 in
theorem rows_ok {B w : World} {D : PH} {s n : Nat} {A : StM} {l : List HP} (i : Int) (sp : Spn) (hI : StI n A) (h : Sat B D w (storeB s n A :: l)) :
    Calls Try.prog 15 #[.pointer (some ⟨s, 0, none⟩), .int .i64 i, sp.v] w fun e w' => ∃ v, e = .returned v ∧ Sat B D w' (rowsP v (scanA A i sp) :: storeB s n A :: l) := by
  have hk1 : Kept (fun _ => False) w (w.alloc (.cells sp.cells tS)) := (Kept.refl _ _).alloc _
  have hb1 : (w.alloc (.cells sp.cells tS)).heap[w.heap.size]? = some (.cells sp.cells tS (0, 0)) := heap_alloc_self w _
  have HA1 := Lib.hid (h.kept hk1)
  have HB1 := Lib.hid hb1
  have HI0 := Lib.hid hI
  clear hk1 hb1 h hI
  dsimp only [Spn.v]
  refine (callsIn_wide (n := 6)).1 (callsIn_of_wp_marks Try.func15 rfl trivial ?_ rfl)
  simp only [Try.ntmps15, List.size_toArray, List.length_cons, List.length_nil, Nat.reduceAdd, Nat.reduceSub, Array.replicate_succ, Array.replicate_zero, List.push_toArray, List.append_toArray, List.nil_append, List.cons_append]
  refine wpIn_wide.2 ?_
  go_upto_region 2 with (fail)
  obtain ⟨wa, hwa⟩ : ∃ wa, wa = w.alloc (.cells sp.cells tS) := ⟨_, rfl⟩
  rw [← hwa] at HA1 HB1
  dsimp only [Spn.cells] at hwa
  rw [← hwa]
  have hsz : w.heap.size + 1 = wa.heap.size := by rw [hwa]; simp
  rw [hsz]
  obtain ⟨W1, hW1⟩ : ∃ W1, W1 = wa.alloc (.cells #[.slice none 0 0] tRs) := ⟨_, rfl⟩
  have hs0 := (Sat.start wa).alloc #[.slice none 0 0] tRs
  rw [← hW1] at hs0
  have HS0 := Lib.hid hs0
  rw [← hW1]
  have hk1 : Kept (fun _ => False) wa W1 := by rw [hW1]; exact (Kept.refl _ _).alloc _
  have hb1 : W1.heap[wa.heap.size]? = some (.cells #[.slice none 0 0] tRs (0, 0)) := by rw [hW1]; exact heap_alloc_self _ _
  have hs1 : W1.heap[w.heap.size]? = some (.cells sp.cells tS (0, 0)) := (hk1.block _ (lt_of_heap HB1.out) (fun h => h)).trans HB1.out
  have HK1 := Lib.hid hk1
  have HB2 := Lib.hid hb1
  have HSP := Lib.hid hs1
  obtain ⟨s0, s1, s2, s3, s4, s5, s6, s7, s8, s9, s10⟩ := Spn.at (s := sp) hs1
  generalize w.heap.size = bs at HB1 HSP s0 s1 s2 s3 s4 s5 s6 s7 s8 s9 s10 ⊢
  clear hwa hW1 hk1 hb1 hs1 hsz hs0
  revert HB2 HS0
  generalize hbz : wa.heap.size = bo
  intro HS0 HB2
  have HBZ := Lib.hid hbz
  clear hbz
  go_upto_region 4 with ((go_at_call 37; refine (Scan_ok s i sp _).mono ?_; rintro e2 w2 ⟨b1, b2, b3, rfl, hk2, -⟩; have HK2 := Lib.hid hk2; clear s0 s1 s2 s3 s4 s5 s6 s7 s8 s9 s10 hk2))
  have hs2 : w2.heap[bs]? = some (.cells sp.cells tS (0, 0)) := (HK2.out.block _ (lt_of_heap HSP.out) (fun h => h)).trans HSP.out
  obtain ⟨s0, s1, s2, s3, s4, s5, s6, s7, s8, s9, s10⟩ := Spn.at (s := sp) hs2
  clear hs2
  go_wp2_with ((go_at_call 37; refine (Scan_ok s i sp _).mono ?_; rintro e3 w3 ⟨c1, c2, c3, rfl, hk3, hbx, hn1, hn2, hn3⟩; have HK3 := Lib.hid (HK2.out.trans hk3 (fun _ h => h.elim)); have HBX := Lib.hid hbx; have HN := Lib.hid (And.intro hn1 (And.intro hn2 hn3)); clear s0 s1 s2 s3 s4 s5 s6 s7 s8 s9 s10 hk3 hbx hn1 hn2 hn3))
  have hk13 := HK1.out.trans HK3.out (fun _ h => h.elim)
  have hb3 : w3.heap[bo]? = some (.cells #[.slice none 0 0] tRs (0, 0)) := (HK3.out.block _ (lt_of_heap HB2.out) (fun h => h)).trans HB2.out
  have hbo1 := lt_of_heap HB2.out
  have hbr : BoxRow w3 bo tRs tR 1 (.slice none 0 0) 0 [] := ⟨hb3, Own.nil _ _ _, fun h => by cases h⟩
  have hnot : ∀ k, OwB bo w3 k → k = bo := fun k hk => (hbr.ow hk).elim (fun h => h) (fun h => by cases h)
  obtain ⟨E, hE1, hE2⟩ := hbr.iter
  have h12 := HN.out
  have hks2 := HK2.out.size
  have hEa : PH.le (cellsOf (heapOf wa)) E := fun k o hk => by
    obtain ⟨cs, ty, fr, rfl⟩ := cellsOf_cells hk
    have h0 := cellsOf_le _ _ _ hk
    have hlt := lt_of_heap h0
    exact hE1 _ _ _ _ ((hk13.block k hlt (fun h => h)).trans h0) (fun h => by have := hnot _ h; have := HBZ.out; omega)
  have e1 := hE1 _ _ _ _ HBX.out.one (fun h => by have := hnot _ h; omega)
  have e2 := hE1 _ _ _ _ HBX.out.two (fun h => by have := hnot _ h; omega)
  have e3 := hE1 _ _ _ _ HBX.out.three (fun h => by have := hnot _ h; omega)
  obtain ⟨tb, tc, pv, u2, u3, u4, cn, F, hes, hFt, hFl, hF⟩ : ∃ (tb : Option Addr) (tc : Nat) (pv u2 u3 u4 : Value) (cn : Nat) (F : TabM), E s = some (.cells #[.slice tb cn tc, pv, u2, u3, u4] tSt (0, 0)) ∧ scanA A i sp = toldN F F.length ∧ F.length < 1000 ∧ ((hasB cn i = false ∧ F = []) ∨ (hasB cn i = true ∧ ∃ j t pn g og pc T, ScanY E pv i sp F j t pn g og pc T)) := by
    obtain ⟨M, hMA, hsG⟩ := bareOpen HA1.out
    obtain ⟨x, hx, hs⟩ := storeOpen hsG
    obtain ⟨tb, tc, htv⟩ := (Sat.front hs 1 rfl).own_shape
    have hcell := Sat.blk hs 0 rfl
    rw [htv] at hcell
    rw [← hMA, scan_bare]
    cases hh : M.has i
    · refine ⟨tb, tc, _, _, _, _, M.cols.length, [], hEa _ _ (cellsOf_eq hcell), ?_, by simp, .inl ⟨hh, rfl⟩⟩
      unfold scanA StM.tab
      rw [hh]
      rfl
    · have hI := HI0.out
      rw [← hMA] at hI
      obtain ⟨j, c, m0, rfl, hj, hc, hm0, htab, hok, _, _⟩ := hI.at (show M.bare.has i = true from hh)
      obtain ⟨m, hm, rfl⟩ := bare_tabs hm0
      have hokm : TabOk c m := tabOk_bare.1 hok
      have hrow : ∀ q ∈ m, q.2.row.length ≤ 1000 := fun q hq => by
        cases hk : q.2.kept
        · have := fits_len ((hokm q hq).2 hk).1; omega
        · rw [((hokm q hq).1 hk).2]; simp
      have hml : m.length ≤ 40 := by
        have h1 := hI.used
        have h2 := hI.full
        have h3 := hI.room
        have h4 : (M.bare.tabs.map List.length)[j]? = some m.length := by rw [List.getElem?_map, hm0]; simp [bareT]
        have h5 := le_sum (List.mem_of_getElem? h4)
        omega
      obtain ⟨t, pn, g, og, pc, T, hY⟩ := scanY_of sp hx hm hrow hs hEa
      refine ⟨tb, tc, _, _, _, _, M.cols.length, m.filter (fun p => spanIn sp p.1), hEa _ _ (cellsOf_eq hcell), ?_, Nat.lt_of_le_of_lt (List.length_filter_le _ _) (by omega), .inr ⟨hh, j, t, pn, g, og, pc, T, hY⟩⟩
      rw [scan_told]
      unfold scanA
      rw [(tab_at (M := M) hj hm).2]
  have HFT := Lib.hid hFt
  have HFL := Lib.hid hFl
  refine (wpIn_wide (n := 5)).1 ?_
  refine wpIn_rangeFunc_new (n := 5) rfl (by omega) (gf := 50) (lb := #[.pointer (some ⟨c1, 0, none⟩), .pointer (some ⟨c2, 0, none⟩), .pointer (some ⟨c3, 0, none⟩)]) rfl trivial (enters_of Try.func50 (by kernel_rfl) rfl)
    (scan1_new (w := w3) (ownerB_box (lt_of_heap hb3)) 4 e1 e2 e3 hes hF hE2)
    (fun h k => KpO.trans h k) (fun W l o o' hl h hc _ => KpO.put (ownerB (lt_of_heap hb3)) hl h hc) (Below.refl _ _) (fun _ => rfl)
    (BoxRows wa bo) (BoxRowsN wa bo) (fun _ _ _ => False) (BoxRows.ownFrom hk13.size) (BoxRowsN.ownFrom hk13.size) (fun _ _ _ _ _ h _ _ => h) ?h0 ?hnew
    (fun (x : RowE) (a' : Act) (_ : World) => a' = { tmps := #[.pointer (some ⟨s, 0, none⟩), .int .i64 i, sp.v, undef, undef, .pointer (some ⟨bs, 0, none⟩), .slice none 0 0, .pointer (some ⟨bo, 0, none⟩), x.v, .pointer (some ⟨s, 0, none⟩), .int .i64 i, sp.v, scanV b1 b2 b3, .bool false, undef, .pointer (some ⟨s, 0, none⟩), .int .i64 i, sp.v, scanV c1 c2 c3, x.v, undef, undef, undef, undef, undef], defers := [] }) (fun _ _ _ _ _ _ h _ _ => h) ?assign ?body ?done ?stop
  case h0 =>
    have h1 : Sat wa (heapOf wa) w3 [blk bo #[.slice none 0 0] tRs] := HS0.out.kept HK3.out
    have h2 : Sat wa (heapOf wa) w3 (group [] :: _) := Sat.togroup (L := []) (h1.own_nil tR 1)
    exact ⟨_, h2.rot.swap⟩
  case hnew =>
    rintro pre x X Y hi hk ⟨hn, hp⟩
    exact hi.new hk hn (nodup_len hp HFL.out)
  case assign =>
    rintro l2 pre x X K hi hK
    have hbX : bo < X.heap.size := by obtain ⟨_, v, hs⟩ := hi; exact lt_of_heap (hs.blk 0 rfl)
    have H := Lib.hid (hK _ _ (KeepsFrom.refl _ _) (KpO.of_kept (ownerB (n₀ := bo + 1) (by omega)) hbX (Kept.refl _ _)) hi rfl)
    clear hK
    gi_wp2
    exact H.out
  case body =>
    rintro l2 pre x a' X hl2 - ⟨hlen, v, hs⟩ rfl
    dsimp only at hlen hs
    have hbx := satBoxRow hs
    obtain ⟨D1, hD1, hsx⟩ := hbx.sat
    obtain ⟨o0, of⟩ := cells1 hbx.box
    have hal := hsx.alloc #[x.v] tR
    have hrb := rd_block (size := 1) (n := 1) hal.heap_blk rfl (by unfold maxLen; omega)
    have HS := Lib.hid hs
    have HBX2 := Lib.hid hbx
    have HD1 := Lib.hid hD1
    have HAL := Lib.hid hal.rot.swap
    have HRB := Lib.hid hrb
    have HPO := Lib.hid (show ∀ u ∈ [x.v], u.oneCell' = true by intro u hu; simp at hu; subst hu; rfl)
    obtain ⟨i0, hinf, hz0, hz1, hz2⟩ := info_parts infoR
    have HI1 := Lib.hid (And.intro hinf (And.intro hz0 (And.intro hz1 hz2)))
    clear hs hbx hD1 hsx hal hrb hinf hz0 hz1 hz2
    dsimp only [Spn.v]
    gi_wp2_with ((refine wpListIn_append_Sat _ rfl _ _ tRs rfl tR i0 _ 1 24 Try.underlying40 HI1.out.1 HI1.out.2.1 HI1.out.2.2.1 HI1.out.2.2.2 rfl _ _ _ rfl HAL.out _ 1 _ rfl HRB.out HPO.out (by unfold maxLen; omega) (by omega) ?_; intro v2 w2 h2 h2o; clear o0 of; obtain ⟨o0, of⟩ := cells1 (h2.blk 1 rfl); have H2 := Lib.hid (h2.swap.set 0 v2); clear h2))
    have h3 := H2.out
    have hst := satBoxStep HS.out HD1.out h3
    obtain ⟨_, hkp, hko, _, _⟩ := HBX2.out.back HD1.out h3
    refine ⟨hko.from _, hkp, v2, ?_⟩
    have q1 := hst.front 3 rfl
    simp only [List.eraseIdx_cons_succ, List.eraseIdx_cons_zero] at q1
    have q2 := q1.ungroup
    have q3 := q2.perm ((((List.Perm.swap _ _ _).cons _).trans (List.Perm.swap _ _ _)).append_left (pre.map rowP))
    have e3 : ∀ (L : List HP) (a b c : HP), L ++ [a, b, c] = (L ++ [a]) ++ [b, c] := fun L a b c => by simp
    rw [e3] at q3
    have q5 := q3.togroup.rot
    rw [List.length_append, List.length_singleton, List.map_append, List.map_append]
    exact q5
  case done =>
    rintro D2 xs W hD hS hi hK
    have hi2 := BoxRows.ownFrom hk13.size xs W (W.putObj D2 (.deferred none)) (some D2) hi (grownBy_putObj' W D2 _) (fun r e => by cases e; exact ⟨hD, _, hK, rfl⟩)
    obtain ⟨v, hs⟩ := hi
    obtain ⟨v', hs'⟩ := hi2
    obtain ⟨o0, of⟩ := cells1 (hs.blk 0 rfl)
    have hvv : v' = v := by
      have h1 := hs'.blk 0 rfl
      rw [World.putObj_heap_other (show bo ≠ D2 by have := lt_of_heap hb3; omega), hs.blk 0 rfl] at h1
      cases h1
      rfl
    subst hvv
    have hov := HA1.out.over (hs'.drop)
    have HF := Lib.hid (show Sat B D (W.putObj D2 (.deferred none)) (rowsP v' (scanA A i sp) :: storeB s n A :: l) from Sat.close_ex xs (by rw [HFT.out]; exact hS) hov)
    clear hs hs' hov hbr
    go_wp2_with (fail)
    refine ⟨by simp, .inl ⟨_, _, rfl, run_takeDeferred hK, ?_⟩⟩
    exact ⟨_, results_tmp rfl _ _ _, v', rfl, HF.out⟩
  case stop =>
    rintro D c pre W _ _ h _
    exact h.elim
end Go.Proofs.Ytcbklkcpjldcjaa
