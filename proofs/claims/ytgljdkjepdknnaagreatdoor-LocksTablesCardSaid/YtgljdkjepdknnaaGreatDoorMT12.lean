/- Joined texts: Clones of rows, of rows of predicates. (printed by genclo.py) A predicate of one's own (pred.Clone). (printed by genclo.py) A claim of one's own (claim.Clone). (printed by genjoin.py) One claim in the place of two (claim.Join). (printed by genjoin.py) -/
import Derived.Test.YtgljdkjepdknnaaGreatDoorMT11
set_option maxHeartbeats 64000000
namespace Go.Proofs.YtgljdkjepdknnaaGreatDoor
open Go.ChangeShapes Go.WideShapes Go.ChangeAt Go.RowKit
set_option maxRecDepth 100000
set_option linter.unusedSimpArgs false
theorem infoVal : (Tryz.prog.info? 31).map (fun i => (i.zero, i.size, i.bytes)) = some (some (.agg #[.bool false, .int .i64 0, .string ⟨#[]⟩]), 3, 32) := by kernel_rfl
theorem infoPr : (Tryz.prog.info? tPr).map (fun i => (i.zero, i.size, i.bytes)) = some (some (.agg #[.int .i64 0, .int .i64 0, .bool false, .int .i64 0, .string ⟨#[]⟩, .bool false, .int .i64 0, .string ⟨#[]⟩, .slice none 0 0]), 9, 104) := by kernel_rfl
theorem mr : (Tryz.prog.info? 91).map (fun i => (i.zero, i.size, i.bytes)) = some (some (.slice none 0 0), 1, 24) := by kernel_rfl
theorem pX {B w : World} {D : PH} {l : List HP} {v : Value} {n : Nat} {xs : List Value} (hrd : Rd w 3 v n xs) (hone : ∀ u ∈ xs, u.oneCell' = true) (hb : n * 32 ≤ 140737488355328) (hs : Sat B D w l) :
  Calls Tryz.prog 131 #[v] w fun e w' => ∃ v', e = .returned v' ∧ Sat B D w' (aJ 31 3 v' n xs :: l) := by
 obtain ⟨i0, hi, hz0, hz1, hz2⟩ := info_parts infoVal
 have hm := hrd.2.1
 obtain ⟨ao, cap, rfl, _, _, hnone, hcase⟩ := hrd.2.2
 cases ao with
 | none =>
  have h0 : n = 0 := by rcases hcase with h | ⟨g, o, h, _⟩; exact h; cases h
  subst h0
  have hx : xs = [] := List.eq_nil_of_length_eq_zero (by simpa using hrd.1)
  subst hx
  have HS := BO (hs.own_nil 31 3)
  clear hcase hnone hrd hz0 hz1 hz2 hi hb hs
  go_enter Tryz.func131, Tryz.ntmps131
  go_wp2_with fail
  go_ret
  exact ⟨_, rfl, HS.out⟩
 | some a =>
  have hown := Sat.own_fresh (e := 31) (size := 3) (n := 0) (cap := 0) (cs := #[]) (xs := []) hs (by omega) (by omega) (by simp) (by simp) (by simp)
  have hrd2 : Rd (w.alloc (.cells #[] 31)) 3 (.slice (some a) n cap) n xs := hrd.kept ((Kept.refl (fun _ => False) _).alloc _) (fun _ _ h => h)
  have HO := BO hown
  have HR := BO hrd2
  have HI := BO (And.intro hi (And.intro hz0 (And.intro hz1 hz2)))
  clear hcase hnone hrd hz0 hz1 hz2 hi hs hown hrd2
  go_enter Tryz.func131, Tryz.ntmps131
  go_wp2_with (at_builtin; refine ar _ rfl _ _ 91 rfl 31 i0 _ 3 32 Tryz.underlying91 HI.out.1 HI.out.2.1 HI.out.2.2.1 HI.out.2.2.2 rfl _ 0 [] rfl HO.out _ n xs rfl HR.out hone (by omega) (by omega) ?_; intro v' w' h1 h2; simp only [Nat.zero_add, List.nil_append] at h1; have H1 := BO h1; clear h1 h2)
  go_ret
  exact ⟨_, rfl, H1.out⟩
theorem pE {B w : World} {D : PH} {l : List HP} {v : Value} {n : Nat} {xs : List Value} (hrd : Rd w 9 v n xs) (hone : ∀ u ∈ xs, u.oneCell' = true) (hb : n * 104 ≤ 140737488355328) (hs : Sat B D w l) :
  Calls Tryz.prog 132 #[v] w fun e w' => ∃ v', e = .returned v' ∧ Sat B D w' (aJ tPr 9 v' n xs :: l) := by
 obtain ⟨i0, hi, hz0, hz1, hz2⟩ := info_parts infoPr
 have hm := hrd.2.1
 obtain ⟨ao, cap, rfl, _, _, hnone, hcase⟩ := hrd.2.2
 cases ao with
 | none =>
  have h0 : n = 0 := by rcases hcase with h | ⟨g, o, h, _⟩; exact h; cases h
  subst h0
  have hx : xs = [] := List.eq_nil_of_length_eq_zero (by simpa using hrd.1)
  subst hx
  have HS := BO (hs.own_nil tPr 9)
  clear hcase hnone hrd hz0 hz1 hz2 hi hb hs
  go_enter Tryz.func132, Tryz.ntmps132
  go_wp2_with fail
  go_ret
  exact ⟨_, rfl, HS.out⟩
 | some a =>
  have hown := Sat.own_fresh (e := tPr) (size := 9) (n := 0) (cap := 0) (cs := #[]) (xs := []) hs (by omega) (by omega) (by simp) (by simp) (by simp)
  have hrd2 : Rd (w.alloc (.cells #[] tPr)) 9 (.slice (some a) n cap) n xs := hrd.kept ((Kept.refl (fun _ => False) _).alloc _) (fun _ _ h => h)
  have HO := BO hown
  have HR := BO hrd2
  have HI := BO (And.intro hi (And.intro hz0 (And.intro hz1 hz2)))
  clear hcase hnone hrd hz0 hz1 hz2 hi hs hown hrd2
  go_enter Tryz.func132, Tryz.ntmps132
  go_wp2_with (at_builtin; refine ar _ rfl _ _ 33 rfl tPr i0 _ 9 104 Tryz.underlying33 HI.out.1 HI.out.2.1 HI.out.2.2.1 HI.out.2.2.2 rfl _ 0 [] rfl HO.out _ n xs rfl HR.out hone (by omega) (by omega) ?_; intro v' w' h1 h2; simp only [Nat.zero_add, List.nil_append] at h1; have H1 := BO h1; clear h1 h2)
  go_ret
  exact ⟨_, rfl, H1.out⟩
theorem lw {B w : World} {D : PH} {l : List HP} {v : Value} {r : List Val} (hrd : cO w v r) (hb : r.length ≤ 1000000) (hs : Sat B D w l) :
  Calls Tryz.prog 85 #[v] w fun e w' => ∃ v', e = .returned v' ∧ Sat B D w' (aJ 31 3 v' r.length (r.flatMap Val.cells) :: l) := by
 have HC := BO (pX hrd (fun u hu => by obtain ⟨x, _, hx⟩ := List.mem_flatMap.1 hu; exact Val.one x u hx) (by omega) hs)
 clear hrd hs
 go_enter Tryz.func85, Tryz.ntmps85
 go_wp2_with ((go_at_call 131; refine HC.out.mono ?_; rintro e1 w1 ⟨v1, rfl, hs1⟩; have sS := BO hs1; clear hs1))
 go_ret
 exact ⟨_, rfl, sS.out⟩
theorem cC {fn : Func} {a : Tmp} {ty : TypeId} (h : fn.results = #[.cell a ty]) (tmps : Array Value) (w : World) {g : Nat} {cs : Array Value} (ha : tmps.getD a undef = .pointer (some ⟨g, 0, none⟩)) (hl : (loadVar ty ⟨g, 0, none⟩).run Tryz.prog w = .ok (.agg cs) w) :
  (results fn tmps).run Tryz.prog w = .ok (.agg cs) w := by
 have ha' : tmps[a]?.getD undef = .pointer (some ⟨g, 0, none⟩) := by simpa using ha
 simp [results, h]
 rw [ha']
 simp [asAddr, hl]
theorem aL {fn : Func} {a b : Tmp} {ty : TypeId} (h : fn.results = #[.cell a ty, .tmp b]) (tmps : Array Value) (w : World) {g : Nat} {cs : Array Value} (ha : tmps.getD a undef = .pointer (some ⟨g, 0, none⟩)) (hl : (loadVar ty ⟨g, 0, none⟩).run Tryz.prog w = .ok (.agg cs) w) :
  (results fn tmps).run Tryz.prog w = .ok (.tuple #[.agg cs, tmps.getD b undef]) w := by
 have ha' : tmps[a]?.getD undef = .pointer (some ⟨g, 0, none⟩) := by simpa using ha
 simp [results, h]
 rw [ha']
 simp [asAddr, hl]
theorem frz {w : World} {b : Nat} {cs : Array Value} {t : TypeId} (h : w.heap[b]? = some (.cells cs t (0, 0))) : ∀ j, w.frozen? ⟨b, j, none⟩ = false := fun j => by simp [World.frozen?, h]
inductive PredSm : PredT → Prop where
 | mk (op col : Int) (v w : Val) (l : List PredT) (hl : l.length ≤ 1000000) (hs : ∀ q ∈ l, PredSm q) : PredSm (.mk op col v w l)
theorem PredSm.len {op col : Int} {v w : Val} {l : List PredT} (h : PredSm (.mk op col v w l)) : l.length ≤ 1000000 := by cases h; assumption
theorem PredSm.sub {op col : Int} {v w : Val} {l : List PredT} (h : PredSm (.mk op col v w l)) : ∀ q ∈ l, PredSm q := by cases h; assumption
def ClmSm (N : Nat) (c : Clm) : Prop := c.imgs.length ≤ N ∧ (∀ r ∈ c.imgs, r.length ≤ 1000000) ∧ PredSm c.pred
theorem ClmSm.mono {N M : Nat} {c : Clm} (h : ClmSm N c) (hm : N ≤ M) : ClmSm M c := ⟨Nat.le_trans h.1 hm, h.2⟩
theorem aq {P : Program} {B w : World} {D : PH} {l : List HP} {ops : Array Oper} {rest : List Oper} {o : Oper} {a : Act} {Q : Exit → Act → World → Prop} (hgd : o.guard = none) (ty : TypeId) (x y : Operand) (ho : o.op = .store ty x y) (e : TypeId) (g : Nat) (hx : a.eval x = .pointer (some ⟨g, 0, none⟩)) (cs : List Value) (hy : a.eval y = .agg cs.toArray) (cur : Array Value) (hs : Sat B D w (blk g cur e :: l))
  (hi : (P.info? ty).map (·.size) = some cs.length) (hfit : cur.size = cs.length) (h1 : ∀ u ∈ cs, u.oneCell' = true)
  (h : ∀ w', Sat B D w' (blk g cs.toArray e :: l) → wpList P ops Q rest (a.put o.dst undef) w') : wpList P ops Q (o :: rest) a w :=
 bd hgd ty x y ho e g 0 hx cs hy cur.toList (by rw [Array.toArray_toList]; exact hs) hi (by simp [hfit]) h1 (fun w' hs' => h w' (by
  rw [show lay cur.toList 0 cs = cs by unfold lay; rw [List.take_zero, List.nil_append, Nat.zero_add, List.drop_of_length_le (by simp [hfit]), List.append_nil]] at hs'
  exact hs'))
abbrev PredE.lay (x : PredE) (a : Option Addr) (n c : Nat) : PredE := ⟨x.op, x.col, x.v, x.w, a, n, c, x.subs⟩
abbrev pZ : Array Value := #[.int .i64 0, .int .i64 0, .bool false, .int .i64 0, .string ⟨#[]⟩, .bool false, .int .i64 0, .string ⟨#[]⟩, .slice none 0 0]
theorem Sat.setPr {B w : World} {D : PH} {l : List HP} {b : Nat} {t : TypeId} {x : PredE} (hs : Sat B D w (Proofs.YtgljdkjepdknnaaGreatDoor.blk b x.cells.toArray t :: l)) (a : Option Addr) (n c : Nat) : Sat B D (w.setCell ⟨b, 8, none⟩ (.slice a n c)) (Proofs.YtgljdkjepdknnaaGreatDoor.blk b (x.lay a n c).cells.toArray t :: l) := hs.set 8 (.slice a n c)
theorem lL {α β : Type} {f : α → β} {l : List α} {i : Nat} {x y : α} (hx : l[i]? = some x) (h : f y = f x) : (l.set i y).map f = l.map f := by
 rw [List.map_set, h]
 obtain ⟨hlt, rfl⟩ := List.getElem?_eq_some_iff.1 hx
 have : f l[i] = (l.map f)[i]'(by simpa using hlt) := by simp
 rw [this, List.set_getElem_self]
def oX (B : World) (D : PH) (l : List HP) (x : PredE) (e : Ending) (w' : World) : Prop := ∃ (z : PredE) (D' : PH), e = .returned (.agg z.cells.toArray) ∧ z.p = x.p ∧ PH.le D D' ∧ PredsAt D' (.slice z.la z.ln z.lc) z.subs ∧ Sat B D' w' l
theorem mp : ∀ (p : PredT) (x : PredE) (B w : World) (D : PH) (l : List HP), x.p = p → PredSm p → PredsAt D (.slice x.la x.ln x.lc) x.subs → Sat B D w l →
  Calls Tryz.prog 86 #[.agg x.cells.toArray] w (oX B D l x) := by
 refine PredT.ind fun op col v w0 pl ih x B w D l hx hsm hat hs => ?_
 have hl : x.subs = pl := by unfold PredE.p at hx; cases hx; rfl
 obtain ⟨es, hrd, hsub, hes⟩ : ∃ es : List PredE, RdP D 9 (.slice x.la x.ln x.lc) es.length (es.flatMap PredE.cells) ∧ x.subs = es.map PredE.p ∧ ∀ e ∈ es, PredsAt D (.slice e.la e.ln e.lc) e.subs := by
  generalize x.subs = xs at hat
  cases hat with
  | mk _ es he hes => exact ⟨es, he, rfl, hes⟩
 have hle : es.length ≤ 1000000 := by have := hsm.len; rw [← hl, hsub, List.length_map] at this; exact this
 have vT := BO (show ∀ (e : PredE) (B w : World) (D : PH) (l : List HP), e.p ∈ es.map PredE.p → PredsAt D (.slice e.la e.ln e.lc) e.subs → Sat B D w l → Calls Tryz.prog 86 #[.agg e.cells.toArray] w (oX B D l e) from
  fun e B w D l he ha hs => ih e.p (by rw [← hl, hsub]; exact he) e B w D l rfl (hsm.sub _ (by rw [← hl, hsub]; exact he)) ha hs)
 obtain ⟨W1, hW1, hs1⟩ := cy hs x.cells.toArray pZ tPr tPr
 have sS := BO hs1
 have sR := BO hW1
 have Aa := BO (show x.p = .mk x.op x.col x.v x.w (es.map PredE.p) by show PredT.mk x.op x.col x.v x.w x.subs = _; rw [hsub])
 have uj := BO (pE (hrd.rd hs1) (fun u hu => by obtain ⟨e, _, hu⟩ := List.mem_flatMap.1 hu; exact PredE.one e u hu) (by omega) hs1)
 obtain ⟨_, _, ra, rc, hav, _⟩ := id hrd
 have hln : x.ln = es.length := (Value.slice.inj hav).2.1
 have vP := BO hes
 clear ih hx hsm hat hl hsub hes hs1 hW1 hs hrd hav
 rw [hln] at uj
 have tE := BO hln
 clear hln
 go_enter Tryz.func86, Tryz.ntmps86
 go_upto_region 1 with fail
 rw [← sR.out]
 clear sR
 generalize w.heap.size + 1 = b2 at sS uj ⊢
 generalize w.heap.size = b1 at sS uj ⊢
 obtain ⟨x0, x1, x2, x3, x4, x5, x6, x7, x8⟩ := aK (sS.out.blk 0 rfl)
 rw [tE.out] at x8
 go_upto_region 2 with (go_at_call 132; refine uj.out.mono ?_; rintro e1 w1 ⟨v1, rfl, hs2⟩; obtain ⟨va, vc, rfl⟩ := hs2.own_shape; clear x0 x1 x2 x3 x4 x5 x6 x7 x8 uj sS; obtain ⟨x0, x1, x2, x3, x4, x5, x6, x7, x8⟩ := aK (hs2.blk 1 rfl); have xf := frz (hs2.blk 1 rfl); have sX := BO (Sat.setPr (hs2.front 1 rfl) va es.length vc); clear hs2)
 obtain ⟨W2, hW2, hs2⟩ := Sat.hide sX.out
 rw [← hW2]
 clear hW2 sX x0 x1 x2 x3 x4 x5 x6 x7 x8 xf
 have sX := BO (show Sat B D W2 (blk b1 (x.lay va es.length vc).cells.toArray tPr :: aJ tPr 9 (.slice va es.length vc) es.length (es.flatMap PredE.cells) :: blk b2 pZ tPr :: l) from hs2)
 obtain ⟨x0, x1, x2, x3, x4, x5, x6, x7, x8⟩ := aK (hs2.blk 0 rfl)
 clear hs2
 generalize hN : es.length = N at *
 have HN := BO hN
 clear hN
 go_wp2_with fail
 go_loopw [3, 11] (fun u3 i wr => ∃ (j : Nat) (ds : List PredE) (D2 : PH), i = .int .i64 j ∧ j ≤ N ∧ ds.length = N ∧ ds.map PredE.p = es.map PredE.p ∧ PH.le D D2 ∧ (∀ e ∈ ds, PredsAt D2 (.slice e.la e.ln e.lc) e.subs) ∧ Sat B D2 wr (blk b1 (x.lay va N vc).cells.toArray tPr :: aJ tPr 9 (.slice va N vc) N (ds.flatMap PredE.cells) :: blk b2 pZ tPr :: l)) (fun _ i _ => N - (intOf i).toNat)
 case atStart => exact ⟨0, es, D, rfl, by omega, HN.out, rfl, PH.le.refl _, vP.out, sX.out⟩
 case round =>
  obtain ⟨j, ds, D2, rfl, hj, hdl, hdm, hle2, hds, hs3⟩ := hrel
  have zd := BO hdl
  have wS := BO hdm
  have tt := BO hle2
  have wy := BO hds
  have sU := BO hs3
  clear hdl hdm hle2 hds hs3
  clear x0 x1 x2 x3 x4 x5 x6 x7 x8
  obtain ⟨x0, x1, x2, x3, x4, x5, x6, x7, x8⟩ := aK (sU.out.blk 0 rfl)
  by_cases hlt : j < N
  ·have hji : (j : Int) < (N : Int) := by omega
   obtain ⟨e, he⟩ : ∃ e, ds[j]? = some e := ⟨ds[j]'(by rw [zd.out]; exact hlt), List.getElem?_eq_getElem _⟩
   obtain ⟨g, og, rfl, hrng⟩ := aD PredE.len (sU.out.own 1 rfl).rd he zd.out
   have Bp : og = 0 := by
    rcases (sU.out.own 1 rfl).2.2 with ⟨h1, _⟩ | ⟨g', c', cur, h1, _⟩
    ·cases h1
    ·cases h1; rfl
   subst Bp
   rw [Nat.zero_add] at hrng
   have HL := BO (bu (w := wr.drew) hrng)
   have HE := BO he
   have HC := BO (vT.out e B wr.drew D2 _ (by rw [← wS.out]; exact List.mem_map.2 ⟨e, List.mem_of_getElem? he, rfl⟩) (wy.out e (List.mem_of_getElem? he)) sU.out.drew)
   clear he hrng
   go_upto_region 5 with fail
   refine af [(0, false, 10), (1, false, 10), (2, false, 10), (3, false, 8), (4, false, 8), (5, false, 8), (6, false, 8), (7, false, 8), (8, true, 0), (9, false, 10), (10, true, 0)] (by kernel_rfl) (by kernel_rfl) ?_
   iterate 8 (refine ae rfl rfl (fun K hK => ?_); (first | ((refine aj _ _ rfl _ _ rfl _ HL.out ?_); go_simp) | go_simp); refine hK _ ?_; clear hK K)
   refine al rfl ?_
   refine aw rfl (fun K hK => ?_)
   go_simp
   refine HC.out.mono ?_
   rintro e4 w4 ⟨z, D4, rfl, hz, hle4, hat4, hs4⟩
   have HZ := BO hz
   have tI := BO hle4
   have yr := BO hat4
   have sY := BO (show Sat B D4 w4 (aJ tPr 9 (.slice (some ⟨g, 0, none⟩) N vc) N (ds.flatMap PredE.cells) :: blk b1 (x.lay (some ⟨g, 0, none⟩) N vc).cells.toArray tPr :: blk b2 pZ tPr :: l) from hs4.swap)
   clear hz hle4 hat4 hs4 HC HL sU x0 x1 x2 x3 x4 x5 x6 x7 x8
   obtain ⟨x0, x1, x2, x3, x4, x5, x6, x7, x8⟩ := aK (sY.out.blk 1 rfl)
   refine hK _ _ ?_
   clear hK K
   refine wpList_nil ?_
   refine And.intro ?_ ?_
   ·go_simp
   refine ae rfl rfl (fun K hK => ?_); (first | ((refine aj _ _ rfl _ _ rfl _ HL.out ?_); go_simp) | go_simp); refine hK _ ?_; clear hK K
   refine al rfl ?_
   refine ct PredE.len PredE.one rfl _ _ _ rfl tPr g _ j N vc rfl (by omega) z rfl ds sY.out (by kernel_rfl) hlt zd.out ?_
   intro w5 hs5
   have sV := BO hs5
   clear hs5 sY x0 x1 x2 x3 x4 x5 x6 x7 x8
   refine wpList_nil ?_
   obtain ⟨x0, x1, x2, x3, x4, x5, x6, x7, x8⟩ := aK (sV.out.blk 1 rfl)
   refine And.intro ?_ ?_
   ·go_simp
   refine ap ?_
   go_wp2_with fail
   go_roundw
   case rel => exact ⟨j + 1, ds.set j z, D4, by go_num, by omega, by rw [List.length_set]; exact zd.out, by rw [lL HE.out HZ.out]; exact wS.out, tt.out.trans tI.out, fun e he => by
    rcases List.mem_or_eq_of_mem_set he with he | rfl
    ·exact (wy.out e he).mono tI.out
    ·exact yr.out, sV.out.swap⟩
   case measure => simp [intOf]; omega
  ·have hji : ¬ ((j : Int) < (N : Int)) := by omega
   have HL := BO (bu (ai (sU.out.blk 0 rfl)))
   have sY := BO (show Sat B D2 wr (blk b2 pZ tPr :: blk b1 (x.lay va N vc).cells.toArray tPr :: aJ tPr 9 (.slice va N vc) N (ds.flatMap PredE.cells) :: l) from sU.out.front 2 rfl)
   clear sU
   go_wp2_with (first | (refine ag rfl _ _ rfl _ _ rfl _ HL.out ?_) | (refine aq rfl _ _ _ rfl tPr b2 rfl (x.lay va N vc).cells rfl pZ sY.out (by kernel_rfl) rfl (PredE.one _) ?_; intro w5 hs5; have sV := BO hs5; clear hs5 sY HL x0 x1 x2 x3 x4 x5 x6 x7 x8))
   refine bodyPost_ret (cC rfl _ _ rfl (bu (ai (sV.out.blk 0 rfl)))) rfl ?_
   have hs6 : Sat B D2 w5 (aJ tPr 9 (.slice va N vc) N (ds.flatMap PredE.cells) :: blk b2 (x.lay va N vc).cells.toArray tPr :: blk b1 (x.lay va N vc).cells.toArray tPr :: l) := sV.out.front 2 rfl
   obtain ⟨D5, hle5, hrd5, hs5⟩ := hs6.own_give
   refine ⟨⟨x.op, x.col, x.v, x.w, va, N, vc, ds.map PredE.p⟩, D5, rfl, ?_, tt.out.trans hle5, ?_, hs5.drop.drop⟩
   ·rw [Aa.out]
    show PredT.mk _ _ _ _ (ds.map PredE.p) = _
    rw [wS.out]
   ·exact .mk _ ds (by rw [zd.out]; exact hrd5) (fun e he => (wy.out e he).mono hle5)
abbrev tRw : TypeId := 91
abbrev ClmE.layI (x : ClmE) (a : Option Addr) (n c : Nat) (rs : List (List Val)) : ClmE := ⟨x.kind, x.table, x.mode, x.key, a, n, c, rs, x.pr⟩
abbrev ClmE.layP (x : ClmE) (p : PredE) : ClmE := ⟨x.kind, x.table, x.mode, x.key, x.ia, x.il, x.ic, x.imgs, p⟩
abbrev ClmE.layM (x : ClmE) (m : Int) : ClmE := ⟨x.kind, x.table, m, x.key, x.ia, x.il, x.ic, x.imgs, x.pr⟩
abbrev cZ : Array Value := #[.int .i64 0, .int .i64 0, .int .i64 0, .bool false, .int .i64 0, .string ⟨#[]⟩, .slice none 0 0, .int .i64 0, .int .i64 0, .bool false, .int .i64 0, .string ⟨#[]⟩, .bool false, .int .i64 0, .string ⟨#[]⟩, .slice none 0 0]
theorem Sat.setI {B w : World} {D : PH} {l : List HP} {b : Nat} {t : TypeId} {x : ClmE} (hs : Sat B D w (Proofs.YtgljdkjepdknnaaGreatDoor.blk b x.cells.toArray t :: l)) (a : Option Addr) (n c : Nat) (rs : List (List Val)) : Sat B D (w.setCell ⟨b, 6, none⟩ (.slice a n c)) (Proofs.YtgljdkjepdknnaaGreatDoor.blk b (x.layI a n c rs).cells.toArray t :: l) := hs.set 6 (.slice a n c)
theorem Sat.setM {B w : World} {D : PH} {l : List HP} {b : Nat} {t : TypeId} {x : ClmE} (hs : Sat B D w (Proofs.YtgljdkjepdknnaaGreatDoor.blk b x.cells.toArray t :: l)) (m : Int) : Sat B D (w.setCell ⟨b, 2, none⟩ (.int .i64 m)) (Proofs.YtgljdkjepdknnaaGreatDoor.blk b (x.layM m).cells.toArray t :: l) := hs.set 2 (.int .i64 m)
def RowsH (D : PH) (hs : List Value) (rs : List (List Val)) : Prop := hs.length = rs.length ∧ ∀ (i : Nat) (h : Value) (r : List Val), hs[i]? = some h → rs[i]? = some r → RowD D h r
theorem RowsH.mono {D D' : PH} {hs : List Value} {rs : List (List Val)} (h : RowsH D hs rs) (le : PH.le D D') : RowsH D' hs rs := ⟨h.1, fun i u r a b => (h.2 i u r a b).mono le⟩
theorem RowsH.snoc {D : PH} {hs : List Value} {rs : List (List Val)} {h : Value} {r : List Val} (H : RowsH D hs rs) (hr : RowD D h r) : RowsH D (hs ++ [h]) (rs ++ [r]) := by
 refine ⟨by simp [H.1], fun i u x a b => ?_⟩
 have hl := H.1
 rcases Nat.lt_trichotomy i hs.length with hi | hi | hi
 ·rw [List.getElem?_append_left hi] at a
  rw [List.getElem?_append_left (by omega)] at b
  exact H.2 i u x a b
 ·subst hi
  rw [List.getElem?_append_right (by omega)] at a
  rw [List.getElem?_append_right (by omega)] at b
  simp at a
  simp [hl] at b
  subst a; subst b; exact hr
 ·rw [List.getElem?_eq_none (by simp; omega)] at a
  cases a
theorem RowsH.at {D : PH} {v : Value} {hs : List Value} {rs : List (List Val)} (H : RowsH D hs rs) (h : RdP D 1 v hs.length hs) (h1 : ∀ u ∈ hs, u.oneCell' = true) : RowsAt D v rs := ⟨hs, H.1, h1, by rw [← H.1]; exact h, H.2⟩
theorem RowsH.rd {B w : World} {D : PH} {l : List HP} {v : Value} {hs : List Value} {rs : List (List Val)} (H : RowsH D hs rs) (s : Sat B D w l) (h : Rd w 1 v hs.length hs) : RowsRd w v rs := ⟨hs, H.1, by rw [← H.1]; exact h, fun i u r a b => (H.2 i u r a b).rd s⟩
def ClonedC (B : World) (D : PH) (l : List HP) (x : ClmE) (e : Ending) (w' : World) : Prop := ∃ (z : ClmE) (hs : List Value) (D' : PH), e = .returned (.agg z.cells.toArray) ∧ z.c = x.c ∧ z.imgs = x.imgs ∧ PH.le D D' ∧ RowsH D' hs x.imgs ∧ z.il = hs.length ∧ PredsAt D' (.slice z.pr.la z.pr.ln z.pr.lc) z.pr.subs ∧ Sat B D' w' (aJ tRw 1 (.slice z.ia z.il z.ic) z.il hs :: l)
theorem fW {w : World} {b : Nat} {x : ClmE} {t : TypeId} {fr : Nat × Nat} (h : w.heap[b]? = some (.cells x.cells.toArray t fr)) : w.cell? ⟨b, 6, none⟩ = some (.slice x.ia x.il x.ic) := (aW h).2
theorem ClmE.setP (x : ClmE) (p : PredE) : Proofs.YtgljdkjepdknnaaGreatDoor.lay x.cells 7 p.cells = (x.layP p).cells := rfl
theorem gO {B w : World} {D : PH} {l : List HP} {x : ClmE} (hx : ClOk D x) (hsm : ClmSm 1000000 x.c) (hs : Sat B D w l) :
  Calls Tryz.prog 45 #[.agg x.cells.toArray] w (ClonedC B D l x) := by
 obtain ⟨i0, hi, hz0, hz1, hz2⟩ := info_parts mr
 have HI := BO (And.intro hi (And.intro hz0 (And.intro hz1 hz2)))
 obtain ⟨W1, hW1, hs1⟩ := cy hs x.cells.toArray cZ tCl tCl
 have sS := BO hs1
 have sR := BO hW1
 have HX := BO hx
 have t8 := BO hsm
 obtain ⟨ia, il, hil, hnc, hml, hcm⟩ : ∃ a c, Value.slice x.ia x.il x.ic = .slice a x.imgs.length c ∧ x.imgs.length ≤ c ∧ x.imgs.length ≤ 9223372036854775807 ∧ c ≤ 9223372036854775807 := (hx.1.rd hs).shape
 have hN1 : x.imgs.length ≤ 1000000 := hsm.1
 have vt := BO (Value.slice.inj hil).2.1
 clear hi hz0 hz1 hz2 hx hsm hs hs1 hW1 hil hnc hml hcm
 go_enter Tryz.func45, Tryz.ntmps45
 go_upto_region 1 with fail
 rw [← sR.out]
 clear sR
 generalize w.heap.size + 1 = b2 at sS ⊢
 generalize w.heap.size = b1 at sS ⊢
 have x6 := fW (sS.out.blk 0 rfl)
 have xf := frz (sS.out.blk 0 rfl)
 rw [vt.out] at x6
 have sX := BO (show Sat B D (W1.setCell ⟨b1, 6, none⟩ (.slice none 0 0)) (aJ tRw 1 (.slice none 0 0) 0 [] :: blk b1 (x.layI none 0 0 []).cells.toArray tCl :: blk b2 cZ tCl :: l) from (Sat.setI sS.out none 0 0 []).own_nil tRw 1)
 go_upto_region 3 with fail
 obtain ⟨W2, hW2, hs2⟩ := Sat.hide sX.out
 rw [← hW2]
 clear hW2 sX sS x6 xf
 have sX := BO hs2
 clear hs2
 generalize hN : x.imgs.length = N at *
 have HN := BO hN
 clear hN
 go_wp2_with fail
 go_loopw [5, 11] (fun u5 i wr => ∃ (j : Nat) (va : Option Addr) (vc : Nat) (hs : List Value) (rs : List (List Val)) (D2 : PH), i = .int .i64 j ∧ j ≤ N ∧ rs = x.imgs.take j ∧ PH.le D D2 ∧ RowsH D2 hs rs ∧ Sat B D2 wr (blk b1 (x.layI va j vc rs).cells.toArray tCl :: aJ tRw 1 (.slice va j vc) j hs :: blk b2 cZ tCl :: l)) (fun _ i _ => N - (intOf i).toNat)
 case atStart => exact ⟨0, none, 0, [], [], D, rfl, by omega, rfl, PH.le.refl _, ⟨rfl, fun i h r a b => by simp at a⟩, sX.out.swap⟩
 case round =>
  obtain ⟨j, va, vc, hs, rs, D2, rfl, hj, hrs, hle2, hrh, hs3⟩ := hrel
  have wT := BO hrs
  have tt := BO hle2
  have xE := BO hrh
  have sU := BO hs3
  have x6 := fW (hs3.blk 0 rfl)
  have xf := frz (hs3.blk 0 rfl)
  clear hrs hle2 hrh hs3
  by_cases hlt : j < N
  ·have hji : (j : Int) < (N : Int) := by omega
   obtain ⟨r, hr⟩ : ∃ r, x.imgs[j]? = some r := ⟨x.imgs[j]'(by rw [HN.out]; exact hlt), List.getElem?_eq_getElem _⟩
   obtain ⟨g, og, ra, rc, hga, y0, hrow, hrl, hrc⟩ := eB (by have := (HX.out.1.mono tt.out).rd sU.out; rw [vt.out] at this; exact this) hr
   have hr6 : r.length ≤ 1000000 := t8.out.2.1 r (List.mem_of_getElem? hr)
   have HR := BO hr
   have ze := BO (lw (w := wr.drew) (show cO wr.drew _ r from hrow) hr6 sU.out.drew)
   have xD := BO hga
   clear hr hrow hga
   rw [xD.out]
   go_upto_region 6 with fail
   refine af [(0, false, 5), (1, false, 5), (2, false, 3), (3, true, 0), (4, true, 0), (5, true, 0), (6, false, 7), (7, true, 0)] (by kernel_rfl) (by kernel_rfl) ?_
   iterate 3 (refine ae rfl rfl (fun K hK => ?_); go_simp; refine hK _ ?_; clear hK K)
   refine al rfl ?_
   refine aw rfl (fun K hK => ?_)
   go_simp
   refine ze.out.mono ?_
   rintro e4 w4 ⟨v4, rfl, hs4⟩
   obtain ⟨D4, hle4, hrd4, hs5⟩ := hs4.own_give
   obtain ⟨wa, wc, rfl⟩ := hrd4.shape
   have tI := BO hle4
   have yt := BO hrd4
   have sY := BO hs5
   clear hs4 hle4 hrd4 hs5 ze sU x6 xf
   have x6 := fW (sY.out.blk 0 rfl)
   have xf := frz (sY.out.blk 0 rfl)
   refine hK _ _ ?_
   clear hK K
   refine wpList_nil ?_
   refine And.intro ?_ ?_
   ·go_simp
   refine al rfl ?_
   refine wpList_plain rfl (fun K hK => ?_)
   go_simp
   refine hK _ _ ?_
   clear hK K
   refine wpList_nil ?_
   obtain ⟨W5, hW5, hs6⟩ := Sat.hide (sY.out.alloc #[.slice wa r.length wc] tRw)
   rw [← hW5]
   clear hW5 sY x6 xf
   generalize w4.heap.size = by_ at hs6 ⊢
   have x6 := fW (hs6.blk 1 rfl)
   have xf := frz (hs6.blk 1 rfl)
   have s5 := BO (aT (size := 1) (n := 1) (hs6.blk 0 rfl) rfl (by unfold maxLen; omega))
   have s0 := BO (show Sat B D4 W5 (aJ tRw 1 (.slice va j vc) j hs :: blk by_ #[.slice wa r.length wc] tRw :: blk b1 (x.layI va j vc rs).cells.toArray tCl :: blk b2 cZ tCl :: l) from hs6.front 2 rfl)
   clear hs6
   refine And.intro ?_ ?_
   ·go_simp
   refine al rfl ?_
   refine ar _ rfl _ _ 32 rfl tRw i0 _ 1 24 Tryz.underlying32 HI.out.1 HI.out.2.1 HI.out.2.2.1 HI.out.2.2.2 rfl _ j _ rfl s0.out _ 1 _ rfl s5.out (by intro u hu; simp at hu; subst hu; rfl) (by unfold maxLen; omega) (by omega) ?_
   intro v7 w7 hs7 h17
   refine wpList_nil ?_
   obtain ⟨va7, vc7, rfl⟩ := hs7.own_shape
   clear h17 s0 s5 x6 xf
   have x6 := fW (hs7.blk 2 rfl)
   have xf := frz (hs7.blk 2 rfl)
   have td := BO (show Sat B D4 (w7.setCell ⟨b1, 6, none⟩ (.slice va7 (j + 1) vc7)) (blk b1 (x.layI va7 (j + 1) vc7 (rs ++ [r])).cells.toArray tCl :: aJ tRw 1 (.slice va7 (j + 1) vc7) (j + 1) (hs ++ [.slice wa r.length wc]) :: blk by_ #[.slice wa r.length wc] tRw :: blk b2 cZ tCl :: l) from Sat.setI (hs7.front 2 rfl) va7 (j + 1) vc7 (rs ++ [r]))
   clear hs7
   refine And.intro ?_ ?_
   ·go_simp
   refine ae rfl rfl (fun K hK => ?_); go_simp; refine hK _ ?_; clear hK K
   refine al rfl ?_
   refine wpList_plain rfl (fun K hK => ?_)
   go_simp
   refine hK _ _ ?_
   clear hK K
   refine wpList_nil ?_
   refine And.intro ?_ ?_
   ·go_simp
   refine ap ?_
   go_wp2_with fail
   go_roundw
   case rel => exact ⟨j + 1, va7, vc7, hs ++ [.slice wa r.length wc], rs ++ [r], D4, by go_num, by omega, by rw [wT.out, List.take_add_one, HR.out]; rfl, tt.out.trans tI.out, (xE.out.mono tI.out).snoc yt.out, td.out.rm2⟩
   case measure => simp [intOf]; omega
  ·have hji : ¬ ((j : Int) < (N : Int)) := by omega
   have hjN : j = N := by omega
   subst hjN
   have vC := BO (bu (eF (sU.out.blk 0 rfl)))
   have AT := BO (mp x.pr.p x.pr B wr D2 _ rfl t8.out.2.2 (HX.out.2.mono tt.out) sU.out)
   go_wp2_with (first | (refine ag rfl _ _ rfl _ _ rfl _ vC.out ?_) | (go_at_call 86; refine AT.out.mono ?_; rintro e4 w4 ⟨z, D4, rfl, hz, hle4, hat4, hs4⟩; have HZ := BO hz; have tI := BO hle4; have yr := BO hat4; have sY := BO hs4; clear hz hle4 hat4 hs4 AT vC sU x6 xf) | (refine bd rfl _ _ _ rfl tCl b1 7 rfl z.cells rfl (x.layI va j vc rs).cells sY.out (by kernel_rfl) (by rw [PredE.len, ClmE.len]; decide) (PredE.one z) ?_; intro w5 hs5; rw [ClmE.setP] at hs5; have wl := BO (ay (ai (hs5.blk 0 rfl))); have sV := BO (hs5.front 2 rfl); clear hs5 sY) | (refine ag rfl _ _ rfl _ _ rfl _ wl.out ?_) | (refine aq rfl _ _ _ rfl tCl b2 rfl ((x.layI va j vc rs).layP z).cells rfl cZ sV.out (by kernel_rfl) rfl (ClmE.one _) ?_; intro w6 hs6; have s0 := BO hs6; clear hs6 sV wl))
   refine bodyPost_ret (cC rfl _ _ rfl (ay (ai (s0.out.blk 0 rfl)))) rfl ?_
   have h7 : Sat B D4 w6 (blk b2 ((x.layI va j vc rs).layP z).cells.toArray tCl :: blk b1 ((x.layI va j vc rs).layP z).cells.toArray tCl :: aJ tRw 1 (.slice va j vc) j hs :: l) := s0.out
   have hrs : rs = x.imgs := by rw [wT.out, ← HN.out, List.take_length]
   refine ⟨(x.layI va j vc rs).layP z, hs, D4, rfl, ?_, hrs, tt.out.trans tI.out, ?_, ?_, yr.out, h7.drop.drop⟩
   ·show Clm.mk _ _ _ _ rs z.p = Clm.mk _ _ _ _ x.imgs x.pr.p
    rw [hrs, HZ.out]
   ·rw [← hrs]; exact xE.out.mono tI.out
   ·show j = hs.length
    rw [xE.out.1, hrs, HN.out]
theorem dJ {B w : World} {D : PH} {l : List HP} (hs : Sat B D w l) (c1 c2 c3 : Array Value) (t1 t2 t3 : TypeId) : ∃ W, W = ((w.alloc (.cells c1 t1)).alloc (.cells c2 t2)).alloc (.cells c3 t3) ∧ Sat B D W (blk w.heap.size c1 t1 :: blk (w.heap.size + 1) c2 t2 :: blk (w.heap.size + 1 + 1) c3 t3 :: l) := by
 have h := ((hs.alloc c1 t1).alloc c2 t2).alloc c3 t3
 rw [World.size_alloc, World.size_alloc] at h
 exact ⟨_, rfl, (h.front 2 rfl).perm ((List.Perm.swap _ _ _).cons _)⟩
theorem gj (l m : List (List Val)) : l.length ≤ (bL l m).length ∧ (bL l m).length ≤ l.length + m.length := by
 unfold bL
 induction m generalizing l with
 | nil => simp
 | cons x m ih =>
  rw [List.foldl_cons]
  split
  ·have := ih l; simp only [List.length_cons]; omega
  ·have := ih (l ++ [x]); simp only [List.length_append, List.length_cons, List.length_nil] at this ⊢; omega
theorem iE {l m : List (List Val)} {j : Nat} {r : List Val} (h : m[j]? = some r) : bL l (m.take (j + 1)) = if cY (bL l (m.take j)) r then bL l (m.take j) else bL l (m.take j) ++ [r] := by
 rw [List.take_add_one, h]
 unfold bL
 rw [List.foldl_append]
 rfl
def pt (B : World) (D : PH) (l : List HP) (c : Clm) (e : Ending) (w' : World) : Prop := ∃ (z : ClmE) (D' : PH), e = .returned (.agg z.cells.toArray) ∧ z.c = c ∧ PH.le D D' ∧ ClOk D' z ∧ Sat B D' w' l
theorem join_C {B w : World} {D : PH} {l : List HP} {x y : ClmE} (hE : EnvD D) (hx : ClOk D x) (hy : ClOk D y) (hsx : ClmSm 1000000 x.c) (hsy : ClmSm 1000000 y.c) (hs : Sat B D w l) :
  Calls Tryz.prog 77 #[.agg x.cells.toArray, .agg y.cells.toArray] w (pt B D l (RC.join x.c y.c)) := by
 obtain ⟨i0, hi, hz0, hz1, hz2⟩ := info_parts mr
 have HI := BO (And.intro hi (And.intro hz0 (And.intro hz1 hz2)))
 obtain ⟨W1, hW1, hs1⟩ := dJ hs x.cells.toArray y.cells.toArray cZ tCl tCl tCl
 have sS := BO hs1
 have sR := BO hW1
 have HX := BO hx
 have HY := BO hy
 have AU := BO hsy
 have HE := BO hE
 have hN1 : x.imgs.length ≤ 1000000 := hsx.1
 have hM1 : y.imgs.length ≤ 1000000 := hsy.1
 have uj := BO (gO hx hsx hs1)
 obtain ⟨ia, il, hil, _⟩ : ∃ a c, Value.slice y.ia y.il y.ic = .slice a y.imgs.length c ∧ y.imgs.length ≤ c ∧ y.imgs.length ≤ 9223372036854775807 ∧ c ≤ 9223372036854775807 := (hy.1.rd hs).shape
 have vt := BO (Value.slice.inj hil).2.1
 have tA := BO (ay (ai (hs1.blk 0 rfl)))
 clear hi hz0 hz1 hz2 hx hy hs hs1 hW1 hil hE hsx hsy
 cases hsame : RC.same x.c y.c
 ·have HJ := BO (show RC.join x.c y.c = x.c from if_neg (by rw [show cz x.c y.c = false from hsame]; simp))
  rw [HJ.out]
  have wU := BO hsame
  clear hsame
  go_enter Tryz.func77, Tryz.ntmps77
  go_upto_region 1 with fail
  rw [← sR.out]
  clear sR
  generalize w.heap.size + 1 + 1 = b3 at sS uj ⊢
  generalize w.heap.size + 1 = b2 at sS uj ⊢
  generalize w.heap.size = b1 at sS uj tA ⊢
  go_upto_region 2 with (first | (refine ag rfl _ _ rfl _ _ rfl _ tA.out ?_) | (go_at_call 45; refine uj.out.mono ?_; rintro e4 w4 ⟨z, hs, D4, rfl, hzc, hzi, hle4, hrh, hzl, hpa, hs4⟩; have vU := BO hzc; have AV := BO hzi; have tI := BO hle4; have xE := BO hrh; have yO := BO hzl; have Ab := BO hpa; have sY := BO (hs4.alloc z.cells.toArray tCl); clear hzc hzi hle4 hrh hzl hpa hs4 uj tA sS) | (refine ax rfl _ _ _ rfl z.cells _ _ rfl rfl (by kernel_rfl) rfl (ClmE.one z) ?_))
  obtain ⟨W4, hW4, hs4⟩ := Sat.hide sY.out
  rw [← hW4]
  clear hW4 sY
  generalize w4.heap.size = b4 at hs4 ⊢
  have th := BO (ay (ai (hs4.blk 2 rfl)))
  have tC := BO (ay (ai (hs4.blk 3 rfl)))
  have tD := BO (eR ((HX.out.mono tI.out).rd hs4) ((HY.out.mono tI.out).rd hs4))
  rw [wU.out] at tD
  have sY := BO hs4
  clear hs4
  go_wp2_with (first | (refine ag rfl _ _ rfl _ _ rfl _ th.out ?_) | (refine ag rfl _ _ rfl _ _ rfl _ tC.out ?_) | (go_at_call 74; refine tD.out.mono ?_; rintro e5 w5 ⟨rfl, hk5⟩; have hs5 := sY.out.kept hk5; have wl := BO (ay (ai (hs5.blk 0 rfl))); have sV := BO (hs5.front 4 rfl); clear hs5 hk5 tD th tC sY) | (refine ag rfl _ _ rfl _ _ rfl _ wl.out ?_) | (refine aq rfl _ _ _ rfl tCl b3 rfl z.cells rfl cZ sV.out (by kernel_rfl) rfl (ClmE.one _) ?_; intro w6 hs6; have s0 := BO hs6; clear hs6 sV wl))
  refine bodyPost_ret (cC rfl _ _ rfl (ay (ai (s0.out.blk 0 rfl)))) rfl ?_
  have h7 : Sat B D4 w6 (blk b3 z.cells.toArray tCl :: blk b4 z.cells.toArray tCl :: aJ tRw 1 (.slice z.ia z.il z.ic) z.il hs :: blk b1 x.cells.toArray tCl :: blk b2 y.cells.toArray tCl :: l) := s0.out
  have h8 := h7.rot.rot
  obtain ⟨D5, hle5, hrd5, hs5⟩ := h8.own_give
  refine ⟨z, D5, rfl, vU.out, tI.out.trans hle5, ⟨?_, Ab.out.mono hle5⟩, hs5.drop.drop.drop.drop⟩
  rw [AV.out]
  refine (xE.out.mono hle5).at ?_ (h8.own 0 rfl).2.1
  rw [← yO.out]; exact hrd5
 ·have HJ := BO (show RC.join x.c y.c = { x.c with mode := dl x.mode y.mode, imgs := bL x.imgs y.imgs } from if_pos hsame)
  rw [HJ.out]
  have wU := BO hsame
  clear hsame
  go_enter Tryz.func77, Tryz.ntmps77
  go_upto_region 1 with fail
  rw [← sR.out]
  clear sR
  generalize w.heap.size + 1 + 1 = b3 at sS uj ⊢
  generalize w.heap.size + 1 = b2 at sS uj ⊢
  generalize w.heap.size = b1 at sS uj tA ⊢
  go_upto_region 2 with (first | (refine ag rfl _ _ rfl _ _ rfl _ tA.out ?_) | (go_at_call 45; refine uj.out.mono ?_; rintro e4 w4 ⟨z, hs, D4, rfl, hzc, hzi, hle4, hrh, hzl, hpa, hs4⟩; have vU := BO hzc; have AV := BO hzi; have tI := BO hle4; have xE := BO hrh; have yO := BO hzl; have Ab := BO hpa; have sY := BO (hs4.alloc z.cells.toArray tCl); clear hzc hzi hle4 hrh hzl hpa hs4 uj tA sS) | (refine ax rfl _ _ _ rfl z.cells _ _ rfl rfl (by kernel_rfl) rfl (ClmE.one z) ?_))
  obtain ⟨W4, hW4, hs4⟩ := Sat.hide sY.out
  rw [← hW4]
  clear hW4 sY
  generalize w4.heap.size = b4 at hs4 ⊢
  have th := BO (ay (ai (hs4.blk 2 rfl)))
  have tC := BO (ay (ai (hs4.blk 3 rfl)))
  have tD := BO (eR ((HX.out.mono tI.out).rd hs4) ((HY.out.mono tI.out).rd hs4))
  rw [wU.out] at tD
  have sY := BO hs4
  clear hs4
  go_upto_region 4 with (first | (refine ag rfl _ _ rfl _ _ rfl _ th.out ?_) | (refine ag rfl _ _ rfl _ _ rfl _ tC.out ?_) | (go_at_call 74; refine tD.out.mono ?_; rintro e5 w5 ⟨rfl, hk5⟩; have hs5 := sY.out.kept hk5; have sV := BO hs5; clear hs5 hk5 tD th tC sY))
  have x2 := (aW (sV.out.blk 2 rfl)).1
  have y2 := (aW (sV.out.blk 3 rfl)).1
  have henv := (HE.out.mono tI.out).env sV.out
  have yu := BO (Join_ok x.mode y.mode w5 henv.1 henv.2)
  have zg := BO (show ∃ m, m = dl x.mode y.mode from ⟨_, rfl⟩)
  obtain ⟨jm, hjm⟩ := zg.out
  have vu := BO hjm
  rw [← hjm] at yu
  clear hjm zg henv
  go_upto_region 5 with (go_at_call 121; refine yu.out.mono ?_; rintro e6 w6 ⟨rfl, hk6⟩; have hs6 := sV.out.kept hk6; have z2 := (aW (hs6.blk 0 rfl)).1; have zf := frz (hs6.blk 0 rfl); have s0 := BO (Sat.setM hs6 jm); clear hs6 hk6 yu sV x2 y2)
  obtain ⟨W6, hW6, hs6⟩ := Sat.hide s0.out
  rw [← hW6]
  clear hW6 s0 z2 zf
  have td := BO (show Sat B D4 W6 (blk b4 (z.layM jm).cells.toArray tCl :: aJ tRw 1 (.slice z.ia z.il z.ic) z.il hs :: blk b2 y.cells.toArray tCl :: blk b3 cZ tCl :: l) from (hs6.front 2 rfl).drop.perm (by first | exact List.Perm.refl _ | simp))
  clear hs6
  have y6 := fW (td.out.blk 2 rfl)
  rw [vt.out] at y6
  generalize hM : y.imgs.length = M at *
  have HM := BO hM
  clear hM
  go_wp2_with fail
  go_loopw [7, 24] (fun u7 i wr => ∃ (j n : Nat) (va : Option Addr) (vc : Nat) (hs : List Value) (rs : List (List Val)) (D2 : PH), i = .int .i64 j ∧ j ≤ M ∧ rs = bL x.imgs (y.imgs.take j) ∧ n = rs.length ∧ PH.le D4 D2 ∧ RowsH D2 hs rs ∧ Sat B D2 wr (blk b4 ((z.layM jm).layI va n vc rs).cells.toArray tCl :: aJ tRw 1 (.slice va n vc) n hs :: blk b2 y.cells.toArray tCl :: blk b3 cZ tCl :: l)) (fun _ i _ => M - (intOf i).toNat)
  case atStart => exact ⟨0, z.il, z.ia, z.ic, hs, x.imgs, D4, rfl, by omega, rfl, by rw [yO.out]; exact xE.out.1, PH.le.refl _, xE.out, td.out⟩
  case round =>
   obtain ⟨j, n, va, vc, hs, rs, D2, rfl, hj, hrs, hn, hle2, hrh, hs3⟩ := hrel
   have wT := BO hrs
   have hn2 : n ≤ 2000000 := by have := (gj x.imgs (y.imgs.take j)).2; rw [← hrs, List.length_take] at this; omega
   have wV := BO hn
   have tt := BO hle2
   have uF := BO hrh
   have sU := BO hs3
   clear y6
   have y6 := fW (hs3.blk 2 rfl)
   rw [vt.out] at y6
   have x6 := fW (hs3.blk 0 rfl)
   have xf := frz (hs3.blk 0 rfl)
   clear hrs hn hle2 hrh hs3
   by_cases hlt : j < M
   ·have hji : (j : Int) < (M : Int) := by omega
    obtain ⟨r, hr⟩ : ∃ r, y.imgs[j]? = some r := ⟨y.imgs[j]'(by rw [HM.out]; exact hlt), List.getElem?_eq_getElem _⟩
    obtain ⟨g, og, ra, rc, hga, y0, hrow, hrl, hrc⟩ := eB (by have := (HY.out.1.mono (tI.out.trans tt.out)).rd sU.out; rw [vt.out] at this; exact this) hr
    have hr6 : r.length ≤ 1000000 := AU.out.2.1 r (List.mem_of_getElem? hr)
    have HR := BO hr
    have yP := BO hrow
    have xD := BO hga
    have uP := BO (in_R (uF.out.rd sU.out (by rw [uF.out.1, ← wV.out]; exact (sU.out.own 1 rfl).rd)) hrow)
    have uk := BO (show bL x.imgs (y.imgs.take (j + 1)) = if cY rs r then rs else rs ++ [r] by rw [iE hr, ← wT.out])
    rw [xD.out] at y6
    rw [xD.out]
    clear hr hrow hga
    cases hin : cY rs r
    ·rw [hin] at uP uk
     clear hin
     go_upto_region 9 with (go_at_call 120; refine uP.out.mono ?_; rintro e8 w8 ⟨rfl, hk8⟩; have tj := BO (sU.out.kept hk8); have Ac := BO (yP.out.kept hk8 (fun _ _ h => h)); clear hk8 uP sU yP x6 xf y6 y0)
     have ze := BO (lw (w := w8.drew) (show cO w8.drew _ r from Ac.out) hr6 tj.out.drew)
     have x6 := fW (tj.out.blk 0 rfl)
     have xf := frz (tj.out.blk 0 rfl)
     have sU := BO tj.out
     refine af [(0, false, 5), (1, false, 5), (2, false, 3), (3, true, 0), (4, true, 0), (5, true, 0), (6, false, 7), (7, true, 0)] (by kernel_rfl) (by kernel_rfl) ?_
     iterate 3 (refine ae rfl rfl (fun K hK => ?_); go_simp; refine hK _ ?_; clear hK K)
     refine al rfl ?_
     refine aw rfl (fun K hK => ?_)
     go_simp
     refine ze.out.mono ?_
     rintro e4 w4 ⟨v4, rfl, hs4⟩
     obtain ⟨D4, hle4, hrd4, hs5⟩ := hs4.own_give
     obtain ⟨wa, wc, rfl⟩ := hrd4.shape
     have tI := BO hle4
     have yt := BO hrd4
     have sY := BO hs5
     clear hs4 hle4 hrd4 hs5 ze sU x6 xf
     have x6 := fW (sY.out.blk 0 rfl)
     have xf := frz (sY.out.blk 0 rfl)
     refine hK _ _ ?_
     clear hK K
     refine wpList_nil ?_
     refine And.intro ?_ ?_
     ·go_simp
     refine al rfl ?_
     refine wpList_plain rfl (fun K hK => ?_)
     go_simp
     refine hK _ _ ?_
     clear hK K
     refine wpList_nil ?_
     obtain ⟨W5, hW5, hs6⟩ := Sat.hide (sY.out.alloc #[.slice wa r.length wc] tRw)
     rw [← hW5]
     clear hW5 sY x6 xf
     generalize w4.heap.size = by_ at hs6 ⊢
     have x6 := fW (hs6.blk 1 rfl)
     have xf := frz (hs6.blk 1 rfl)
     have s5 := BO (aT (size := 1) (n := 1) (hs6.blk 0 rfl) rfl (by unfold maxLen; omega))
     have s0 := BO (show Sat B D4 W5 (aJ tRw 1 (.slice va n vc) n hs :: blk by_ #[.slice wa r.length wc] tRw :: blk b4 ((z.layM jm).layI va n vc rs).cells.toArray tCl :: blk b2 y.cells.toArray tCl :: blk b3 cZ tCl :: l) from hs6.front 2 rfl)
     clear hs6
     refine And.intro ?_ ?_
     ·go_simp
     refine al rfl ?_
     refine ar _ rfl _ _ 32 rfl tRw i0 _ 1 24 Tryz.underlying32 HI.out.1 HI.out.2.1 HI.out.2.2.1 HI.out.2.2.2 rfl _ n _ rfl s0.out _ 1 _ rfl s5.out (by intro u hu; simp at hu; subst hu; rfl) (by unfold maxLen; omega) (by omega) ?_
     intro v7 w7 hs7 h17
     refine wpList_nil ?_
     obtain ⟨va7, vc7, rfl⟩ := hs7.own_shape
     clear h17 s0 s5 x6 xf
     have x6 := fW (hs7.blk 2 rfl)
     have xf := frz (hs7.blk 2 rfl)
     have td := BO (show Sat B D4 (w7.setCell ⟨b4, 6, none⟩ (.slice va7 (n + 1) vc7)) (blk b4 ((z.layM jm).layI va7 (n + 1) vc7 (rs ++ [r])).cells.toArray tCl :: aJ tRw 1 (.slice va7 (n + 1) vc7) (n + 1) (hs ++ [.slice wa r.length wc]) :: blk by_ #[.slice wa r.length wc] tRw :: blk b2 y.cells.toArray tCl :: blk b3 cZ tCl :: l) from Sat.setI (hs7.front 2 rfl) va7 (n + 1) vc7 (rs ++ [r]))
     clear hs7
     refine And.intro ?_ ?_
     ·go_simp
     refine ae rfl rfl (fun K hK => ?_); go_simp; refine hK _ ?_; clear hK K
     refine al rfl ?_
     refine wpList_plain rfl (fun K hK => ?_)
     go_simp
     refine hK _ _ ?_
     clear hK K
     refine wpList_nil ?_
     refine And.intro ?_ ?_
     ·go_simp
     refine ap ?_
     have y6 := fW (td.out.blk 3 rfl)
     go_wp2_with fail
     go_roundw
     case rel => exact ⟨j + 1, n + 1, va7, vc7, hs ++ [.slice wa r.length wc], rs ++ [r], D4, by go_num, by omega, by rw [uk.out]; rfl, by rw [List.length_append, wV.out]; rfl, tt.out.trans tI.out, (uF.out.mono tI.out).snoc yt.out, td.out.rm2⟩
     case measure => simp [intOf]; omega
    ·rw [hin] at uP uk
     clear hin
     go_wp2_with (go_at_call 120; refine uP.out.mono ?_; rintro e8 w8 ⟨rfl, hk8⟩; have tj := BO (sU.out.kept hk8); clear hk8 uP sU yP x6 xf y6 y0)
     go_roundw
     case rel => exact ⟨j + 1, n, va, vc, hs, rs, D2, by go_num, by omega, by rw [uk.out]; rfl, wV.out, tt.out, uF.out, tj.out⟩
     case measure => simp [intOf]; omega
   ·have hji : ¬ ((j : Int) < (M : Int)) := by omega
    have hjM : j = M := by omega
    subst hjM
    have wl := BO (ay (ai (sU.out.blk 0 rfl)))
    have sV := BO (show Sat B D2 wr (blk b3 cZ tCl :: blk b4 ((z.layM jm).layI va n vc rs).cells.toArray tCl :: aJ tRw 1 (.slice va n vc) n hs :: blk b2 y.cells.toArray tCl :: l) from sU.out.front 3 rfl)
    go_wp2_with (first | (refine ag rfl _ _ rfl _ _ rfl _ wl.out ?_) | (refine aq rfl _ _ _ rfl tCl b3 rfl ((z.layM jm).layI va n vc rs).cells rfl cZ sV.out (by kernel_rfl) rfl (ClmE.one _) ?_; intro w6 hs6; have s0 := BO hs6; clear hs6 sV wl sU x6 xf y6))
    refine bodyPost_ret (cC rfl _ _ rfl (ay (ai (s0.out.blk 0 rfl)))) rfl ?_
    have h8 := s0.out.rot.rot
    obtain ⟨D5, hle5, hrd5, hs5⟩ := h8.own_give
    have hrs : rs = bL x.imgs y.imgs := by rw [wT.out, ← HM.out, List.take_length]
    refine ⟨(z.layM jm).layI va n vc rs, D5, rfl, ?_, (tI.out.trans tt.out).trans hle5, ⟨?_, (Ab.out.mono tt.out).mono hle5⟩, hs5.drop.drop.drop⟩
    ·have hz := vU.out
     have hc : (z.c).kind = x.kind ∧ (z.c).table = x.table ∧ (z.c).key = x.key ∧ (z.c).pred = x.pr.p := by rw [hz]; exact ⟨rfl, rfl, rfl, rfl⟩
     show Clm.mk z.kind z.table jm z.key rs z.pr.p = Clm.mk x.kind x.table (dl x.mode y.mode) x.key (bL x.imgs y.imgs) x.pr.p
     obtain ⟨a1, a2, a3, a4⟩ := hc
     rw [show z.kind = x.kind from a1, show z.table = x.table from a2, show z.key = x.key from a3, show z.pr.p = x.pr.p from a4, vu.out, hrs]
    ·refine (uF.out.mono hle5).at ?_ (h8.own 0 rfl).2.1
     rw [uF.out.1, ← wV.out]; exact hrd5
end Go.Proofs.YtgljdkjepdknnaaGreatDoor
