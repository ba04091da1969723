/- Joined texts: The store as data and in memory; has, fits. The store: at. -/
import Derived.Test.YtcbklkcpjldcjaaJ26
import Derived.Test.YtcbklkcpjldcjaaJ25
import Derived.Test.YtcbklkcpjldcjaaJ14
import Derived.Test.YtcbklkcpjldcjaaJ1
/- The store as data and in memory; has, fits. -/
namespace Go.Proofs.Ytcbklkcpjldcjaa
open Go.ChangeShapes Go.WideShapes Go.ChangeAt Go.RowKit
set_option maxRecDepth 100000
set_option linter.unusedSimpArgs false

/-- a tree among what is owned -/
def treeG (t : Nat) (T : TM) : HP := exP (fun x : Value × Value × List NP => x.2.2.map Prod.snd = T.nodes) (fun x => [blk t (treeCells x.1 x.2.1 T.k) tT, ownS tN 4 x.1 x.2.2.length (x.2.2.flatMap nodeCells), kidsP x.2.1 T.free, group (x.2.2.map nodeP)])
theorem TreeA.close {B w : World} {D : PH} {t : Nat} {T : TM} {l : List HP} (h : TreeA B D w t T l) : Sat B D w (treeG t T :: l) := by
  obtain ⟨nv, fv, ns, hns, hs⟩ := h
  exact Sat.close_ex (nv, fv, ns) hns hs
theorem treeOpen {B w : World} {D : PH} {t : Nat} {T : TM} {l : List HP} (h : Sat B D w (treeG t T :: l)) : TreeA B D w t T l := by
  obtain ⟨⟨nv, fv, ns⟩, hns, hs⟩ := Sat.open_ex h
  exact ⟨nv, fv, ns, hns, hs⟩

/-- a place: kept, or a row and its number; the row's header -/
structure PlM where
  kept : Bool
  num : Int
  row : List Val
  ro : Option Addr
  rn : Nat
  rc : Nat
def PlM.s (p : PlM) : SlotT := ⟨p.kept, p.num, p.ro, p.rn, p.rc⟩
abbrev PlM.hv (p : PlM) : Value := .slice p.ro p.rn p.rc
abbrev TabM := List (Val × PlM)
def tl (m : TabM) : PL := m.map fun p => (p.1, p.2.s)
def insM (m : TabM) (k : Val) (p : PlM) : TabM := m.filter (fun q => decide (valCmp q.1 k < 0)) ++ (k, p) :: m.filter (fun q => decide (0 < valCmp q.1 k))
def delM (m : TabM) (k : Val) : TabM := m.filter (fun p => !decide (valCmp p.1 k = 0))
def findM (m : TabM) (k : Val) : Option (Val × PlM) := m.find? (fun p => decide (p.1 = k))
def atM (m : TabM) (k : Val) : Option PlM := (findM m k).map Prod.snd
theorem tl_ins (m : TabM) (k : Val) (p : PlM) : insL (tl m) k p.s = tl (insM m k p) := by
  unfold insL tl insM
  rw [List.map_append, List.map_cons, List.filter_map, List.filter_map]
  rfl
theorem tl_del (m : TabM) (k : Val) : delL (tl m) k = tl (delM m k) := by
  unfold delL tl delM
  rw [List.filter_map]
  rfl
theorem tl_has (m : TabM) (k : Val) : hasK (tl m) k = m.any (fun p => decide (valCmp p.1 k = 0)) := by
  unfold hasK tl
  rw [List.any_map]
  rfl
theorem tl_get (m : TabM) (k : Val) : getP (tl m) k = (findM m k).map fun p => (p.1, p.2.s) := by
  unfold getP tl findM
  rw [List.find?_map]
  rfl
theorem tl_inS (s : Spn) (m : TabM) : inS s (tl m) = tl (m.filter fun p => spanIn s p.1) := by
  unfold inS tl
  rw [List.filter_map]
  rfl

/-- a store as data -/
structure StM where
  cols : List (List Bool)
  tabs : List TabM
  room : Int
  used : Int
  last : Int
def plP (p : Val × PlM) : HP := ownS tV 3 p.2.hv p.2.row.length (p.2.row.flatMap Val.cells)
def tabG (n t : Nat) (m : TabM) : HP := exP (fun T : TM => Good T (tl m) ∧ Small T (tl m) n) (fun T => [treeG t T, group (m.map plP)])
def tabP (n : Nat) (p : Nat × TabM) : HP := tabG n p.1 p.2
def colP (p : Value × List Bool) : HP := ownS tB 1 p.1 p.2.length (p.2.flatMap bcells)
abbrev tSt : TypeId := 67
abbrev tPt : TypeId := 69
abbrev tPts : TypeId := 65
def ptrV (t : Nat) : Value := .pointer (some ⟨t, 0, none⟩)
/-- its numbers and headers in memory -/
structure StH where
  tv : Value
  pv : Value
  hs : List Value
  ts : List Nat
def stL (s n : Nat) (M : StM) (x : StH) : List HP := [blk s #[x.tv, x.pv, .int .i64 M.room, .int .i64 M.used, .int .i64 M.last] tSt, ownS tTab 1 x.tv M.cols.length x.hs, group ((x.hs.zip M.cols).map colP), ownS tPt 1 x.pv M.tabs.length (x.ts.map ptrV), group ((x.ts.zip M.tabs).map (tabP n))]
def StOk (M : StM) (x : StH) : Prop := x.hs.length = M.cols.length ∧ x.ts.length = M.tabs.length ∧ M.tabs.length = M.cols.length
def storeG (s n : Nat) (M : StM) : HP := exP (StOk M) (stL s n M)

section
variable {B w w' : World} {D : PH} {s n : Nat} {M : StM} {l : List HP}
theorem storeOpen (h : Sat B D w (storeG s n M :: l)) : ∃ x, StOk M x ∧ Sat B D w (stL s n M x ++ l) := Sat.open_ex h
theorem storeClose {x : StH} (hx : StOk M x) (h : Sat B D w (stL s n M x ++ l)) : Sat B D w (storeG s n M :: l) := Sat.close_ex x hx h
def StM.has (M : StM) (i : Int) : Bool := decide (0 ≤ i) && decide (i < (M.cols.length : Int))
/-- what a table's columns are -/
theorem st_col {x : StH} (hx : StOk M x) (h : Sat B D w (stL s n M x ++ l)) {i : Nat} {c : List Bool} (hc : M.cols[i]? = some c) : ∃ o cp tb tn tc g og, x.hs[i]? = some (.slice o c.length cp) ∧ x.tv = .slice tb tn tc ∧ tb = some ⟨g, og, none⟩ ∧ tn = M.cols.length ∧ w.cell? ⟨g, og + i, none⟩ = some (.slice o c.length cp) ∧ ColRd w (.slice o c.length cp) c := by
  obtain ⟨h1, h2, h3⟩ := hx
  have hlt := (List.getElem?_eq_some_iff.1 hc).1
  obtain ⟨v, hv⟩ : ∃ v, x.hs[i]? = some v := ⟨x.hs[i]'(by omega), List.getElem?_eq_getElem _⟩
  have hz : (x.hs.zip M.cols)[i]? = some (v, c) := by rw [List.getElem?_zip_eq_some]; exact ⟨hv, hc⟩
  have hz2 : ((x.hs.zip M.cols).map colP)[i]? = some (colP (v, c)) := by rw [List.getElem?_map, hz]; rfl
  have hs1 : Sat B D w ((x.hs.zip M.cols).map colP ++ _) := (Sat.front h 2 rfl).ungroup
  have hown := Sat.own (hs1.perm ((perm_get _ i _ hz2).append_right _)) 0 rfl
  obtain ⟨ao, cap, hve⟩ := (hs1.perm ((perm_get _ i _ hz2).append_right _)).own_shape
  dsimp only at hown hve
  subst hve
  have ht := Sat.own h 1 rfl
  obtain ⟨tb, tc, htv⟩ := (Sat.front h 1 rfl).own_shape
  have hrd := ht.rd.2.2
  rcases hrd with ⟨ao2, cap2, hq, _, _, _, hcell⟩
  rcases hcell with h0 | ⟨g, og, hg, hcc⟩
  · omega
  · refine ⟨ao, cap, tb, _, tc, g, og, hv, htv, ?_, rfl, hcc i _ hv, hown.rd⟩
    rw [htv] at hq
    cases hq
    exact hg
theorem st_cells {x : StH} (h : Sat B D w (stL s n M x ++ l)) : w.cell? ⟨s, 0, none⟩ = some x.tv ∧ w.cell? ⟨s, 1, none⟩ = some x.pv ∧ w.cell? ⟨s, 2, none⟩ = some (.int .i64 M.room) ∧ w.cell? ⟨s, 3, none⟩ = some (.int .i64 M.used) ∧ w.cell? ⟨s, 4, none⟩ = some (.int .i64 M.last) ∧ ∀ j, w.frozen? ⟨s, j, none⟩ = false := cells5 (Sat.blk h 0 rfl)
theorem has_cases (M : StM) (i : Int) : (M.has i = true ∧ ∃ j : Nat, i = (j : Int) ∧ j < M.cols.length) ∨ (M.has i = false ∧ (i < 0 ∨ (0 ≤ i ∧ ¬ i < (M.cols.length : Int)))) := by
  unfold StM.has
  by_cases h0 : 0 ≤ i
  · by_cases h1 : i < (M.cols.length : Int)
    · exact .inl ⟨by simp [h0, h1], i.toNat, by omega, by omega⟩
    · exact .inr ⟨by simp [h1], .inr ⟨h0, h1⟩⟩
  · exact .inr ⟨by simp [h0], .inl (by omega)⟩

theorem has_ok (i : Int) (h : Sat B D w (storeG s n M :: l)) : Calls Try.prog 35 #[.pointer (some ⟨s, 0, none⟩), .int .i64 i] w fun e w' => e = .returned (.bool (M.has i)) ∧ w = w' := by
  obtain ⟨x, hx, hs⟩ := storeOpen h
  obtain ⟨t0, t1, t2, t3, t4, tf⟩ := st_cells hs
  obtain ⟨tb, tc, htv⟩ := (Sat.front hs 1 rfl).own_shape
  rw [htv] at t0
  clear hs h hx htv
  rcases has_cases M i with ⟨hh, j, rfl, hj⟩ | ⟨hh, h0 | ⟨h0, h1⟩⟩
  · have HH := Lib.hid hh
    clear hh
    have h0 : (0 : Int) ≤ (j : Int) := by omega
    have h1 : (j : Int) < (M.cols.length : Int) := by omega
    go_enter Try.func35, Try.ntmps35
    go_wp2_with fail
    go_ret
    rw [HH.out]
    exact ⟨rfl, rfl⟩
  · have HH := Lib.hid hh
    clear hh
    have h1 : ¬ (0 ≤ i) := by omega
    go_enter Try.func35, Try.ntmps35
    go_wp2_with fail
    go_ret
    rw [HH.out]
    exact ⟨rfl, rfl⟩
  · have HH := Lib.hid hh
    clear hh
    go_enter Try.func35, Try.ntmps35
    go_wp2_with fail
    go_ret
    rw [HH.out]
    exact ⟨rfl, rfl⟩
end
def StM.fits (M : StM) (i : Int) (r : List Val) : Bool := M.has i && fitsT (M.cols.getD i.toNat []) r
theorem sfits_ok {B w : World} {D : PH} {s n : Nat} {M : StM} {l : List HP} (i : Int) {rv : Value} {r : List Val} (hr : RowRd w rv r) (h : Sat B D w (storeG s n M :: l)) : Calls Try.prog 30 #[.pointer (some ⟨s, 0, none⟩), .int .i64 i, rv] w fun e w' => e = .returned (.bool (M.fits i r)) ∧ Kept (fun _ => False) w w' := by
  have HHAS := Lib.hid (has_ok i h)
  rcases has_cases M i with ⟨hh, j, rfl, hj⟩ | ⟨hh, -⟩
  · obtain ⟨c, hc⟩ : ∃ c, M.cols[j]? = some c := ⟨M.cols[j], List.getElem?_eq_getElem hj⟩
    obtain ⟨x, hx, hs⟩ := storeOpen h
    obtain ⟨t0, t1, t2, t3, t4, tf⟩ := st_cells hs
    obtain ⟨o, cp, tb, tn, tc, g, og, q1, q2, q3, q4, q5, q6⟩ := st_col hx hs hc
    rw [q2, q3, q4] at t0
    have HFT := Lib.hid (Fits_ok q6 hr)
    have HF := Lib.hid (show M.fits (j : Int) r = fitsT c r by unfold StM.fits; rw [hh]; simp [hc])
    have HH := Lib.hid hh
    have hji : (j : Int) < (M.cols.length : Int) := by omega
    clear hh hx hs h hc q1 q2 q3 q4 q6 hr
    go_enter Try.func30, Try.ntmps30
    go_wp2_with (first | (go_at_call 35; refine HHAS.out.mono ?_; rw [HH.out]; rintro e1 w1 ⟨rfl, rfl⟩) | (go_at_call 47; refine HFT.out.mono ?_; rintro e2 w2 ⟨rfl, hk2⟩; have HK2 := Lib.hid hk2; clear hk2 t0 t1 t2 t3 t4 tf q5))
    go_ret
    rw [HF.out]
    exact ⟨rfl, HK2.out⟩
  · have HF := Lib.hid (show M.fits i r = false by unfold StM.fits; rw [hh]; rfl)
    have HH := Lib.hid hh
    clear hh h hr
    go_enter Try.func30, Try.ntmps30
    go_wp2_with (go_at_call 35; refine HHAS.out.mono ?_; rw [HH.out]; rintro e1 w1 ⟨rfl, rfl⟩)
    go_ret
    rw [HF.out]
    exact ⟨rfl, Kept.refl _ _⟩
end Go.Proofs.Ytcbklkcpjldcjaa

/- The store: at. -/
namespace Go.Proofs.Ytcbklkcpjldcjaa
open Go.ChangeShapes Go.WideShapes Go.ChangeAt Go.RowKit
set_option maxRecDepth 100000
set_option linter.unusedSimpArgs false

theorem holds_map {α : Type} {f f' : α → HP} : ∀ (L : List α), (∀ x ∈ L, ∀ h, f x h → f' x h) → ∀ h, Holds (L.map f) h → Holds (L.map f') h
  | [], _, _, _ => trivial
  | x :: L, hf, _, ⟨h1, h2, a, b, c, d, e⟩ => ⟨h1, h2, a, b, c, hf x (List.mem_cons_self ..) _ d, holds_map L (fun y hy => hf y (List.mem_cons_of_mem _ hy)) _ e⟩
theorem map_erase {α β : Type} (f : α → β) : ∀ (L : List α) (i : Nat), (L.eraseIdx i).map f = (L.map f).eraseIdx i
  | [], _ => by simp
  | x :: L, 0 => by simp
  | x :: L, i + 1 => by simp [map_erase f L i]
theorem exP_mono {α : Type} {p p' : α → Prop} {L : α → List HP} (hp : ∀ x, p x → p' x) (h : PH) : exP p L h → exP p' L h := fun ⟨x, h1, h2⟩ => ⟨x, hp x h1, h2⟩
theorem Small.more {T : TM} {L : PL} {n n' : Nat} (h : Small T L n) (hn : n ≤ n') : Small T L n' := by
  obtain ⟨h1, h2, h3⟩ := h
  exact ⟨by omega, Nat.le_trans h2 (Nat.mul_le_mul hn (by omega)), by omega⟩
theorem tabG_more {n n' t : Nat} {m : TabM} (hn : n ≤ n') (h : PH) : tabG n t m h → tabG n' t m h := exP_mono (fun _ h => ⟨h.1, h.2.more hn⟩) h

section
variable {B w w' : World} {D : PH} {s n n' : Nat} {M : StM} {x : StH} {l : List HP} {i t : Nat} {m m' : TabM}
/-- one table by itself -/
def stRest (s n : Nat) (M : StM) (x : StH) (i : Nat) : List HP := [blk s #[x.tv, x.pv, .int .i64 M.room, .int .i64 M.used, .int .i64 M.last] tSt, ownS tTab 1 x.tv M.cols.length x.hs, group ((x.hs.zip M.cols).map colP), ownS tPt 1 x.pv M.tabs.length (x.ts.map ptrV), group (((x.ts.zip M.tabs).eraseIdx i).map (tabP n))]
theorem st_focus (hm : M.tabs[i]? = some m) (ht : x.ts[i]? = some t) (h : Sat B D w (stL s n M x ++ l)) : Sat B D w (tabG n t m :: (stRest s n M x i ++ l)) := by
  have hz : (x.ts.zip M.tabs)[i]? = some (t, m) := by rw [List.getElem?_zip_eq_some]; exact ⟨ht, hm⟩
  have hz2 : ((x.ts.zip M.tabs).map (tabP n))[i]? = some (tabG n t m) := by rw [List.getElem?_map, hz]; rfl
  have h1 := (Sat.front h 4 rfl).ungroup
  have h2 := h1.perm ((perm_get _ i _ hz2).append_right _)
  have h3 := ((h2.perm (List.perm_cons_append_cons _ (List.Perm.refl _)).symm.symm))
  have h4 : Sat B D w (tabG n t m :: (((x.ts.zip M.tabs).map (tabP n)).eraseIdx i ++ (stL s n M x ++ l).eraseIdx 4)) := h2
  have h5 := (h4.perm (List.perm_append_comm_assoc [tabG n t m] _ _)).togroup
  rw [← map_erase] at h5
  have h6 := h5.perm (List.perm_middle (l₁ := [tabG n t m, blk s #[x.tv, x.pv, .int .i64 M.room, .int .i64 M.used, .int .i64 M.last] tSt, ownS tTab 1 x.tv M.cols.length x.hs, group ((x.hs.zip M.cols).map colP), ownS tPt 1 x.pv M.tabs.length (x.ts.map ptrV)]) (a := group (((x.ts.zip M.tabs).eraseIdx i).map (tabP n))) (l₂ := l)).symm
  exact h6
theorem st_unfocus (hx : StOk M x) (hm : M.tabs[i]? = some m) (ht : x.ts[i]? = some t) (hn : n ≤ n') (h : Sat B D w (tabG n' t m' :: (stRest s n M x i ++ l))) : StOk { M with tabs := M.tabs.set i m' } x ∧ Sat B D w (stL s n' { M with tabs := M.tabs.set i m' } x ++ l) := by
  have hz : (x.ts.zip M.tabs)[i]? = some (t, m) := by rw [List.getElem?_zip_eq_some]; exact ⟨ht, hm⟩
  have hset : x.ts.zip (M.tabs.set i m') = (x.ts.zip M.tabs).set i (t, m') := by
    refine List.ext_getElem? fun j => ?_
    by_cases hj : i = j
    · subst hj
      have hlt := (List.getElem?_eq_some_iff.1 hz).1
      have hlt2 := (List.getElem?_eq_some_iff.1 hm).1
      rw [List.getElem?_set_self hlt, List.getElem?_zip_eq_some]
      exact ⟨ht, List.getElem?_set_self hlt2⟩
    · rw [List.getElem?_set_ne hj, List.zip_eq_zipWith, List.zip_eq_zipWith, List.getElem?_zipWith, List.getElem?_zipWith, List.getElem?_set_ne hj]
  refine ⟨⟨hx.1, by simpa using hx.2.1, by simpa using hx.2.2⟩, ?_⟩
  have h1 : Sat B D w (group (((x.ts.zip M.tabs).eraseIdx i).map (tabP n)) :: tabG n' t m' :: blk s #[x.tv, x.pv, .int .i64 M.room, .int .i64 M.used, .int .i64 M.last] tSt :: ownS tTab 1 x.tv M.cols.length x.hs :: group ((x.hs.zip M.cols).map colP) :: ownS tPt 1 x.pv M.tabs.length (x.ts.map ptrV) :: l) :=
    h.perm (List.perm_middle (l₁ := [tabG n' t m', blk s #[x.tv, x.pv, .int .i64 M.room, .int .i64 M.used, .int .i64 M.last] tSt, ownS tTab 1 x.tv M.cols.length x.hs, group ((x.hs.zip M.cols).map colP), ownS tPt 1 x.pv M.tabs.length (x.ts.map ptrV)]) (a := group (((x.ts.zip M.tabs).eraseIdx i).map (tabP n))) (l₂ := l))
  have h2 := (h1.weaken (A' := group (((x.ts.zip M.tabs).eraseIdx i).map (tabP n'))) (fun h => holds_map _ (fun _ _ _ h => tabG_more hn _ h) h)).ungroup
  have h3 := h2.perm (List.perm_middle (l₁ := ((x.ts.zip M.tabs).eraseIdx i).map (tabP n')) (a := tabG n' t m'))
  rw [map_erase] at h3
  have hz2 : ((x.ts.zip M.tabs).map (tabP n'))[i]? = some (tabG n' t m) := by rw [List.getElem?_map, hz]; rfl
  have h4 := h3.perm (((perm_set (tabG n' t m') _ i _ hz2).symm.append_right (blk s #[x.tv, x.pv, .int .i64 M.room, .int .i64 M.used, .int .i64 M.last] tSt :: ownS tTab 1 x.tv M.cols.length x.hs :: group ((x.hs.zip M.cols).map colP) :: ownS tPt 1 x.pv M.tabs.length (x.ts.map ptrV) :: l)))
  have e : ((x.ts.zip M.tabs).map (tabP n')).set i (tabG n' t m') = (x.ts.zip (M.tabs.set i m')).map (tabP n') := by rw [hset, List.map_set]; rfl
  rw [e] at h4
  have h5 := h4.togroup.perm (List.perm_middle (l₁ := [blk s #[x.tv, x.pv, .int .i64 M.room, .int .i64 M.used, .int .i64 M.last] tSt, ownS tTab 1 x.tv M.cols.length x.hs, group ((x.hs.zip M.cols).map colP), ownS tPt 1 x.pv M.tabs.length (x.ts.map ptrV)]) (a := group ((x.ts.zip (M.tabs.set i m')).map (tabP n'))) (l₂ := l)).symm
  have e2 : (M.tabs.set i m').length = M.tabs.length := List.length_set
  unfold stL
  dsimp only
  rw [e2]
  exact h5
theorem st_more (hn : n ≤ n') (h : Sat B D w (stL s n M x ++ l)) : Sat B D w (stL s n' M x ++ l) := by
  have h1 := (Sat.front h 4 rfl).weaken (A' := group ((x.ts.zip M.tabs).map (tabP n'))) (fun h => holds_map _ (fun _ _ _ h => tabG_more hn _ h) h)
  exact h1.perm (List.perm_middle (l₁ := [blk s #[x.tv, x.pv, .int .i64 M.room, .int .i64 M.used, .int .i64 M.last] tSt, ownS tTab 1 x.tv M.cols.length x.hs, group ((x.hs.zip M.cols).map colP), ownS tPt 1 x.pv M.tabs.length (x.ts.map ptrV)]) (a := group ((x.ts.zip M.tabs).map (tabP n'))) (l₂ := l)).symm
theorem storeG_more (hn : n ≤ n') (h : Sat B D w (storeG s n M :: l)) : Sat B D w (storeG s n' M :: l) := by
  obtain ⟨x, hx, hs⟩ := storeOpen h
  exact storeClose hx (st_more hn hs)
/-- the place of a table's tree -/
theorem st_ptr (hx : StOk M x) (hm : M.tabs[i]? = some m) (h : Sat B D w (stL s n M x ++ l)) : ∃ t g og pc, x.ts[i]? = some t ∧ x.pv = .slice (some ⟨g, og, none⟩) M.tabs.length pc ∧ w.cell? ⟨g, og + i, none⟩ = some (.pointer (some ⟨t, 0, none⟩)) := by
  obtain ⟨h1, h2, h3⟩ := hx
  have hlt := (List.getElem?_eq_some_iff.1 hm).1
  obtain ⟨t, ht⟩ : ∃ t, x.ts[i]? = some t := ⟨x.ts[i]'(by omega), List.getElem?_eq_getElem _⟩
  have hp := (Sat.own h 3 rfl).rd.2.2
  obtain ⟨po, pc, hpv⟩ := (Sat.front h 3 rfl).own_shape
  rcases hp with ⟨ao2, cap2, hq, _, _, _, hcell⟩
  rcases hcell with h0 | ⟨g, og, hg, hcc⟩
  · omega
  · rw [hpv] at hq
    cases hq
    subst hg
    exact ⟨t, g, og, pc, ht, hpv, hcc i _ (by rw [List.getElem?_map, ht]; rfl)⟩
end
/-- two places compared -/
theorem equalIn_place (w : World) (a1 : Bool) (a2 : Int) (b1 : Bool) (b2 : Int) :
    (Op.equalIn 10000 72 (.agg #[.bool a1, .int .i64 a2]) (.agg #[.bool b1, .int .i64 b2])).run Try.prog w = .ok (decide (a1 = b1) && decide (a2 = b2)) w := by
  have hst : Try.prog.stoodInHeld 72 = false := by kernel_rfl
  have hu := Try.underlying72
  have hf : Try.prog.underlying 72 = some (.struct (Try.prog.fieldsOf 72)) := by unfold Program.fieldsOf; rw [hu]
  rw [show (10000 : Nat) = 9999 + 1 from rfl, run_equalIn_struct w 9999 _ _ _ hf hst]
  unfold Program.fieldsOf
  rw [hu]
  have e1 := run_equalIn_bool' (P := Try.prog) w 9998 4 a1 b1 Try.underlying4
  have e2 := run_equalIn_int (P := Try.prog) w 9998 3 .i64 .i64 a2 b2 Try.underlying3
  by_cases h1 : a1 = b1
  · subst h1
    by_cases h2 : a2 = b2
    · subst h2
      simp [Op.eqFields, part, isAgg, run_underlying Try.underlying4, run_underlying Try.underlying3, e1, e2]
    · simp [Op.eqFields, part, isAgg, run_underlying Try.underlying4, run_underlying Try.underlying3, e1, e2, h2]
  · simp [Op.eqFields, part, isAgg, run_underlying Try.underlying4, run_underlying Try.underlying3, e1, e2, h1]
@[go_sem high] theorem run_eql_place (w : World) (a1 : Bool) (a2 : Int) (b1 : Bool) (b2 : Int) :
    (binOp .eql 72 (.agg #[.bool a1, .int .i64 a2]) (.agg #[.bool b1, .int .i64 b2])).run Try.prog w = .ok (.bool (decide (a1 = b1) && decide (a2 = b2))) w := by
  simp only [binOp]
  simp [Op.equal, Op.maxDepth, equalIn_place]

/-- what a table has at a key -/
def slotM (m : TabM) (k : Val) : SlotT := match atM m k with
  | some p => p.s
  | none => SlotT.none
def takenM (m : TabM) (k : Val) : Bool := match atM m k with
  | some p => !p.kept
  | none => false
def keptM (m : TabM) (k : Val) : Bool := match atM m k with
  | some p => p.kept
  | none => false
/-- what a table's places may be -/
def TabOk (c : List Bool) (m : TabM) : Prop := ∀ p ∈ m, (p.2.kept = true → p.2.num = 0 ∧ p.2.row = []) ∧ (p.2.kept = false → fitsT c p.2.row = true ∧ p.2.row.head? = some p.1)
theorem get_slot (m : TabM) (k : Val) : getV (tl m) k = slotM m k ∧ getB (tl m) k = (atM m k).isSome := by
  unfold getV getB slotM atM
  rw [tl_get]
  cases findM m k <;> exact ⟨rfl, rfl⟩

theorem slot_taken {c : List Bool} {m : TabM} (hok : TabOk c m) (k : Val) : takenM m k = ((atM m k).isSome && !(keptM m k)) ∧ ((atM m k).isSome && (slotM m k).kept) = keptM m k ∧ ((slotM m k).kept = true → (slotM m k).num = 0) := by
  unfold takenM keptM slotM
  cases h : atM m k with
  | none => exact ⟨rfl, rfl, fun h => by cases h⟩
  | some p =>
    refine ⟨by simp, by simp [PlM.s], ?_⟩
    have hp : (k, p) ∈ m := by
      unfold atM findM at h
      cases h2 : m.find? (fun p => decide (p.1 = k)) with
      | none => rw [h2] at h; cases h
      | some q =>
        rw [h2] at h
        cases h
        have h3 := List.find?_some h2
        have h4 := List.mem_of_find?_eq_some h2
        simp at h3
        rw [← h3]
        exact h4
    have := (hok _ hp).1
    exact fun hk => (this hk).1
/-- the two blocks of at: its result, its key -/
theorem at_start (w : World) (k : Val) : Sat w (heapOf w) ((w.alloc (.cells #[.bool k.t, .int .i64 k.n, .string k.s] tV)).alloc (.cells #[.bool false, .int .i64 0, .slice none 0 0] tW)) [blk (w.heap.size + 1) #[.bool false, .int .i64 0, .slice none 0 0] tW, blk w.heap.size #[.bool k.t, .int .i64 k.n, .string k.s] tV] := by
  have h := ((Sat.start w).alloc #[.bool k.t, .int .i64 k.n, .string k.s] tV).alloc #[.bool false, .int .i64 0, .slice none 0 0] tW
  rw [World.size_alloc] at h
  exact h

set_option maxHeartbeats 4000000 in
theorem at_ok {B w : World} {D : PH} {s n i : Nat} {M : StM} {m : TabM} {c : List Bool} {l : List HP} (k : Val) (hm : M.tabs[i]? = some m) (hok : TabOk c m) (h : Sat B D w (storeG s n M :: l)) :
    Calls Try.prog 31 #[.pointer (some ⟨s, 0, none⟩), .int .i64 i, k.v] w fun e w' => e = .returned (.tuple #[(slotM m k).v, .bool (takenM m k), .bool (keptM m k)]) ∧ Kept (fun _ => False) w w' := by
  have hg := at_start w k
  have hk1 := hg.drop.drop.end_ (PH.le.refl _)
  obtain ⟨x, hx, hs⟩ := storeOpen h
  obtain ⟨t, g, og, pc, ht, hpv, -⟩ := st_ptr hx hm hs
  have hmt : i < M.tabs.length := (List.getElem?_eq_some_iff.1 hm).1
  have hib : (i : Int) < (M.tabs.length : Int) := by omega
  have hf := st_focus hm ht (hs.kept hk1)
  obtain ⟨T, ⟨hG, hSm⟩, hsT⟩ := Sat.open_ex hf
  have HT := Lib.hid (treeOpen hsT)
  have HG := Lib.hid hG
  have HS := Lib.hid (hs.kept hk1)
  have HX := Lib.hid hx
  have HM := Lib.hid hm
  have HPV := Lib.hid hpv
  have HTS := Lib.hid ht
  have HST := Lib.hid (slot_taken hok k)
  have HGS := Lib.hid (get_slot m k)
  have HB := Lib.hid hg
  clear hg hk1 hx hs hf hsT hG hSm hm hpv ht h hok
  dsimp only [Val.v]
  go_enter Try.func31, Try.ntmps31
  go_upto_region 1 with (fail)
  obtain ⟨W, hW, hb⟩ := Sat.hide HB.out
  rw [← hW] at HS HT ⊢
  clear hW HB
  generalize w.heap.size + 1 = br at hb ⊢
  generalize w.heap.size = bk at hb ⊢
  obtain ⟨x0, x1, x2, xf⟩ := cells3 (hb.blk 1 rfl)
  obtain ⟨t0, t1, t2, t3, t4, tf⟩ := st_cells HS.out
  rw [HPV.out] at t1
  obtain ⟨t', g', og', pc', ht', hpv', hpc⟩ := st_ptr HX.out HM.out HS.out
  rw [HPV.out] at hpv'
  rw [HTS.out] at ht'
  cases hpv'
  cases ht'
  have HB := Lib.hid hb
  clear hb
  have hmt' : ¬ (M.tabs.length ≤ i) := by omega
  refine wp_region_tr (.rd 0 8 (.rd 1 8 (.rd 2 8 (.rd 3 8 (.rd 4 8 (.rd 5 8 (.rd 6 8 (.rd 7 8 (.ef 8 (.rd 9 13 (.rd 10 13 (.rd 11 999 (.ef 12 (.ef 13 (.rd 14 999 .nil) .nil) .nil)))) (.ef 12 (.ef 8 (.rd 9 13 (.rd 10 13 (.rd 11 999 (.ef 13 (.rd 14 999 .nil) .nil)))) .nil) .nil)))))))))) [8, 12, 13] (by kernel_rfl) (by kernel_rfl) ?_
  iterate 8 (refine wpTr_read rfl rfl (fun K hK => ?_); go_simp; refine hK _ ?_; clear hK K)
  refine wpTr_two rfl rfl ?_ ?_
  · skip
    refine wpList_do rfl (fun K hK => ?_)
    go_simp
    refine (Get_ok k HG.out HT.out.drew).mono ?_
    rintro e1 w1 ⟨rfl, hk2⟩
    rw [HGS.out.1, HGS.out.2]
    have hb1 := (HB.out.drew.kept hk2)
    have HB1 := Lib.hid hb1
    clear hk2 hb1 x0 x1 x2 xf t0 t1 t2 t3 t4 tf hpc
    refine hK _ _ ?_
    clear hK K
    refine wpList_nil ?_
    refine And.intro ?_ ?_
    · go_simp
    iterate 3 (refine wpTr_read rfl rfl (fun K hK => ?_); go_simp; refine hK _ ?_; clear hK K)
    refine wpTr_eff rfl ?_
    refine wpList_plain rfl (fun K hK => ?_)
    go_simp
    refine hK _ _ ?_
    clear hK K
    refine wpList_nil ?_
    have hb2 := HB1.out.alloc #[.bool false, .int .i64 0, .slice none 0 0] tW
    obtain ⟨W2, hW2, hb2⟩ := Sat.hide hb2
    rw [← hW2]
    generalize w1.heap.size = b9 at hb2 ⊢
    clear hW2
    obtain ⟨z0, z1, z2, zf⟩ := cells3 (hb2.blk 0 rfl)
    have HB2 := Lib.hid (((hb2.set 0 (.bool (slotM m k).kept)).set 1 (.int .i64 (slotM m k).num)).set 2 (.slice (slotM m k).ro (slotM m k).rn (slotM m k).rc))
    clear hb2
    refine And.intro ?_ ?_
    · go_simp
    refine wpTr_eff rfl ?_
    refine wpList_plain rfl (fun K hK => ?_)
    go_simp
    refine hK _ _ ?_
    clear hK K
    refine wpList_nil ?_
    refine And.intro ?_ ?_
    · go_simp
    iterate 1 (refine wpTr_read rfl rfl (fun K hK => ?_); go_simp; refine hK _ ?_; clear hK K)
    refine wpTr_nil ?_
    go_upto_region 2 with fail
    obtain ⟨W3, hW3, hb3⟩ := Sat.hide HB2.out
    rw [← hW3]
    have hb3 : Sat w (heapOf w) W3 [blk b9 #[.bool (slotM m k).kept, .int .i64 (slotM m k).num, .slice (slotM m k).ro (slotM m k).rn (slotM m k).rc] tW, blk br #[.bool false, .int .i64 0, .slice none 0 0] tW, blk bk #[.bool k.t, .int .i64 k.n, .string k.s] tV] := hb3
    obtain ⟨y0, y1, y2, yf⟩ := cells3 (hb3.blk 0 rfl)
    obtain ⟨r0, r1, r2, rf⟩ := cells3 (hb3.blk 1 rfl)
    have HR := Lib.hid (get_res hb3 (slotM m k))
    clear hW3 HB2 hb3 z0 z1 z2 zf
    have hst := HST.out
    clear HST HGS
    generalize hsl : slotM m k = sl at hst HR y0 y1 y2 ⊢
    generalize hkp : keptM m k = kp at hst HR ⊢
    generalize htk : takenM m k = tk at hst HR ⊢
    have HSL := Lib.hid hsl
    have HKP := Lib.hid hkp
    have HTK := Lib.hid htk
    clear hsl hkp htk
    generalize (atM m k).isSome = is at hst ⊢
    obtain ⟨ha, hb, h0⟩ := hst
    cases is
    · rw [Bool.false_and] at ha hb
      subst ha
      subst hb
      go_wp2_with fail
      obtain ⟨e0, e1, e2, _⟩ := cells3 (HR.out.blk 0 rfl)
      try simp only [Exit.inBlock, Exit.then]
      refine bodyPost_ret (results_slot3 rfl _ _ rfl e0 e1 e2) rfl ?_
      exact ⟨by rw [HSL.out, HKP.out, HTK.out]; rfl, HR.out.drop.drop.drop.end_ (PH.le.refl _)⟩
    · rw [Bool.true_and] at ha hb
      subst ha
      obtain ⟨sk, sn, so, sm, sc⟩ := sl
      dsimp only at hb h0 HR y0 y1 y2
      subst hb
      cases sk
      · clear h0
        go_wp2_with fail
        obtain ⟨e0, e1, e2, _⟩ := cells3 (HR.out.blk 0 rfl)
        try simp only [Exit.inBlock, Exit.then]
        refine bodyPost_ret (results_slot3 rfl _ _ rfl e0 e1 e2) rfl ?_
        exact ⟨by rw [HSL.out, HKP.out, HTK.out]; rfl, HR.out.drop.drop.drop.end_ (PH.le.refl _)⟩
      · obtain rfl := h0 rfl
        clear h0
        go_wp2_with fail
        obtain ⟨e0, e1, e2, _⟩ := cells3 (HR.out.blk 0 rfl)
        try simp only [Exit.inBlock, Exit.then]
        refine bodyPost_ret (results_slot3 rfl _ _ rfl e0 e1 e2) rfl ?_
        exact ⟨by rw [HSL.out, HKP.out, HTK.out]; rfl, HR.out.drop.drop.drop.end_ (PH.le.refl _)⟩
  · skip
    refine wpList_plain rfl (fun K hK => ?_)
    go_simp
    refine hK _ _ ?_
    clear hK K
    refine wpList_nil ?_
    have hb2 := (HB.out.alloc #[.bool false, .int .i64 0, .slice none 0 0] tW).drew
    have hk2 : Kept (fun _ => False) W (W.alloc (.cells #[.bool false, .int .i64 0, .slice none 0 0] tW)).drew := ((Kept.refl _ _).alloc _).drew
    have HS2 := Lib.hid (HS.out.kept hk2)
    have HT2 := Lib.hid (HT.out.kept hk2)
    obtain ⟨W2, hW2, hb2⟩ := Sat.hide hb2
    rw [← hW2] at HS2 HT2
    rw [← hW2]
    generalize W.heap.size = b9 at hb2 ⊢
    clear hW2 hk2 x0 x1 x2 xf t0 t1 t2 t3 t4 tf hpc HS HT HB
    have HB2 := Lib.hid hb2
    obtain ⟨x0, x1, x2, xf⟩ := cells3 (hb2.blk 2 rfl)
    obtain ⟨t0, t1, t2, t3, t4, tf⟩ := st_cells HS2.out
    rw [HPV.out] at t1
    obtain ⟨t', g', og', pc', ht', hpv', hpc⟩ := st_ptr HX.out HM.out HS2.out
    rw [HPV.out] at hpv'
    rw [HTS.out] at ht'
    cases hpv'
    cases ht'
    clear hb2
    refine And.intro ?_ ?_
    · go_simp
    refine wpTr_eff rfl ?_
    refine wpList_do rfl (fun K hK => ?_)
    go_simp
    refine (Get_ok k HG.out HT2.out).mono ?_
    rintro e1 w1 ⟨rfl, hk2⟩
    rw [HGS.out.1, HGS.out.2]
    have hb3 := (HB2.out.kept hk2)
    clear hk2 HB2 x0 x1 x2 xf t0 t1 t2 t3 t4 tf hpc
    obtain ⟨z0, z1, z2, zf⟩ := cells3 (hb3.blk 0 rfl)
    have HB2 := Lib.hid (((hb3.set 0 (.bool (slotM m k).kept)).set 1 (.int .i64 (slotM m k).num)).set 2 (.slice (slotM m k).ro (slotM m k).rn (slotM m k).rc))
    clear hb3
    refine hK _ _ ?_
    clear hK K
    refine wpList_nil ?_
    refine And.intro ?_ ?_
    · go_simp
    iterate 3 (refine wpTr_read rfl rfl (fun K hK => ?_); go_simp; refine hK _ ?_; clear hK K)
    refine wpTr_eff rfl ?_
    refine wpList_plain rfl (fun K hK => ?_)
    go_simp
    refine hK _ _ ?_
    clear hK K
    refine wpList_nil ?_
    refine And.intro ?_ ?_
    · go_simp
    iterate 1 (refine wpTr_read rfl rfl (fun K hK => ?_); go_simp; refine hK _ ?_; clear hK K)
    refine wpTr_nil ?_
    go_upto_region 2 with fail
    obtain ⟨W3, hW3, hb3⟩ := Sat.hide HB2.out
    rw [← hW3]
    have hb3 : Sat w (heapOf w) W3 [blk b9 #[.bool (slotM m k).kept, .int .i64 (slotM m k).num, .slice (slotM m k).ro (slotM m k).rn (slotM m k).rc] tW, blk br #[.bool false, .int .i64 0, .slice none 0 0] tW, blk bk #[.bool k.t, .int .i64 k.n, .string k.s] tV] := hb3
    obtain ⟨y0, y1, y2, yf⟩ := cells3 (hb3.blk 0 rfl)
    obtain ⟨r0, r1, r2, rf⟩ := cells3 (hb3.blk 1 rfl)
    have HR := Lib.hid (get_res hb3 (slotM m k))
    clear hW3 HB2 hb3 z0 z1 z2 zf
    have hst := HST.out
    clear HST HGS
    generalize hsl : slotM m k = sl at hst HR y0 y1 y2 ⊢
    generalize hkp : keptM m k = kp at hst HR ⊢
    generalize htk : takenM m k = tk at hst HR ⊢
    have HSL := Lib.hid hsl
    have HKP := Lib.hid hkp
    have HTK := Lib.hid htk
    clear hsl hkp htk
    generalize (atM m k).isSome = is at hst ⊢
    obtain ⟨ha, hb, h0⟩ := hst
    cases is
    · rw [Bool.false_and] at ha hb
      subst ha
      subst hb
      go_wp2_with fail
      obtain ⟨e0, e1, e2, _⟩ := cells3 (HR.out.blk 0 rfl)
      try simp only [Exit.inBlock, Exit.then]
      refine bodyPost_ret (results_slot3 rfl _ _ rfl e0 e1 e2) rfl ?_
      exact ⟨by rw [HSL.out, HKP.out, HTK.out]; rfl, HR.out.drop.drop.drop.end_ (PH.le.refl _)⟩
    · rw [Bool.true_and] at ha hb
      subst ha
      obtain ⟨sk, sn, so, sm, sc⟩ := sl
      dsimp only at hb h0 HR y0 y1 y2
      subst hb
      cases sk
      · clear h0
        go_wp2_with fail
        obtain ⟨e0, e1, e2, _⟩ := cells3 (HR.out.blk 0 rfl)
        try simp only [Exit.inBlock, Exit.then]
        refine bodyPost_ret (results_slot3 rfl _ _ rfl e0 e1 e2) rfl ?_
        exact ⟨by rw [HSL.out, HKP.out, HTK.out]; rfl, HR.out.drop.drop.drop.end_ (PH.le.refl _)⟩
      · obtain rfl := h0 rfl
        clear h0
        go_wp2_with fail
        obtain ⟨e0, e1, e2, _⟩ := cells3 (HR.out.blk 0 rfl)
        try simp only [Exit.inBlock, Exit.then]
        refine bodyPost_ret (results_slot3 rfl _ _ rfl e0 e1 e2) rfl ?_
        exact ⟨by rw [HSL.out, HKP.out, HTK.out]; rfl, HR.out.drop.drop.drop.end_ (PH.le.refl _)⟩
end Go.Proofs.Ytcbklkcpjldcjaa
