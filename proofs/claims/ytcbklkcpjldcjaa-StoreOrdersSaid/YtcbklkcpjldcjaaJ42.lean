/- Joined texts: The document's places and the store as data: the same, whatever is done to both. The document's places and the store as data: each act answers the same. The document's acts and the store's: the same answers, the same places. -/
import Derived.Test.YtcbklkcpjldcjaaJ41
/- The document's places and the store as data: the same, whatever is done to both. -/
namespace Go.Proofs.Ytcbklkcpjldcjaa
open Go.ChangeShapes Go.WideShapes Go.ChangeAt Go.RowKit
set_option maxRecDepth 100000
set_option linter.unusedSimpArgs false

/-- a place without its header -/
abbrev PB := Int × Val × List Val × Int
def Pl.b (q : Pl) : PB := (q.t, q.k, q.row, q.num)
def ent (j : Nat) (p : Val × PlM) : PB := ((j : Int), p.1, p.2.row, p.2.num)
def flat : Nat → List TabM → List PB
  | _, [] => []
  | j, m :: ms => m.map (ent j) ++ flat (j + 1) ms
def bAt (t : Int) (k : Val) (x : PB) : Bool := decide (x.1 = t) && decide (x.2.1 = k)
def bCmp (q p : PB) : Int := if q.1 = p.1 then valCmp q.2.1 p.2.1 else q.1 - p.1

/-! ### with, of a row in three parts -/
section
variable {p : Pl}
theorem withS_ltL : ∀ (X : List Pl) (O : List Pl) (dn : Bool), (∀ q ∈ X, plCmp q p < 0) → X.foldl (withS p) (O, dn) = (O ++ X, dn)
  | [], O, dn, _ => by simp
  | x :: X, O, dn, h => by
    rw [List.foldl_cons, withS_lt (h x (List.mem_cons_self ..)), withS_ltL X _ dn (fun q hq => h q (List.mem_cons_of_mem _ hq))]
    simp
theorem withS_eqT : ∀ (X : List Pl) (O : List Pl), (∀ q ∈ X, plCmp q p = 0) → X.foldl (withS p) (O, true) = (O, true)
  | [], O, _ => rfl
  | x :: X, O, h => by
    rw [List.foldl_cons, withS_eq1 (h x (List.mem_cons_self ..)), withS_eqT X _ (fun q hq => h q (List.mem_cons_of_mem _ hq))]
theorem withS_gtT : ∀ (X : List Pl) (O : List Pl), (∀ q ∈ X, 0 < plCmp q p) → X.foldl (withS p) (O, true) = (O ++ X, true)
  | [], O, _ => by simp
  | x :: X, O, h => by
    rw [List.foldl_cons, withS_gt1 (h x (List.mem_cons_self ..)), withS_gtT X _ (fun q hq => h q (List.mem_cons_of_mem _ hq))]
    simp
theorem withL_split {X Y Z : List Pl} (hX : ∀ q ∈ X, plCmp q p < 0) (hY : ∀ q ∈ Y, plCmp q p = 0) (hZ : ∀ q ∈ Z, 0 < plCmp q p) : withL (X ++ (Y ++ Z)) p = X ++ p :: Z := by
  have e0 : withF (X ++ (Y ++ Z)) p = Z.foldl (withS p) (Y.foldl (withS p) (X, false)) := by
    unfold withF
    rw [List.foldl_append, List.foldl_append, withS_ltL X _ _ hX]
    rfl
  cases Y with
  | cons y Y =>
    rw [List.foldl_cons, withS_eq0 (hY y (List.mem_cons_self ..)), withS_eqT Y _ (fun q hq => hY q (List.mem_cons_of_mem _ hq)), withS_gtT Z _ hZ] at e0
    unfold withL
    rw [e0]
    simp
  | nil =>
    cases Z with
    | nil =>
      unfold withL
      rw [e0]
      simp
    | cons z Z =>
      rw [List.foldl_nil, List.foldl_cons, withS_gt0 (hZ z (List.mem_cons_self ..)), withS_gtT Z _ (fun q hq => hZ q (List.mem_cons_of_mem _ hq))] at e0
      unfold withL
      rw [e0]
      simp
end

/-! ### tables in order -/
theorem flat_mem : ∀ {ms : List TabM} {j : Nat} {x : PB}, x ∈ flat j ms → (j : Int) ≤ x.1 ∧ x.1 < ((j + ms.length : Nat) : Int)
  | [], _, _, h => by cases h
  | m :: ms, j, x, h => by
    rcases List.mem_append.1 h with h | h
    · obtain ⟨p, _, rfl⟩ := List.mem_map.1 h
      show (j : Int) ≤ (j : Int) ∧ (j : Int) < _
      simp
      omega
    · have := flat_mem h
      simp
      omega
theorem flatB_len : ∀ (ms : List TabM) (j : Nat), (flat j ms).length = (ms.map List.length).sum
  | [], _ => rfl
  | m :: ms, j => by
    show (m.map (ent j) ++ flat (j + 1) ms).length = _
    rw [List.length_append, flatB_len ms, List.length_map]
    rfl
theorem flat_set : ∀ (ms : List TabM) (j i : Nat) (m m' : TabM), ms[i]? = some m → flat j ms = flat j (ms.take i) ++ (m.map (ent (j + i)) ++ flat (j + i + 1) (ms.drop (i + 1))) ∧ flat j (ms.set i m') = flat j (ms.take i) ++ (m'.map (ent (j + i)) ++ flat (j + i + 1) (ms.drop (i + 1)))
  | [], _, _, _, _, h => by simp at h
  | x :: ms, j, 0, m, m', h => by simp at h; subst h; exact ⟨rfl, rfl⟩
  | x :: ms, j, i + 1, m, m', h => by
    have := flat_set ms (j + 1) i m m' (by simpa using h)
    have e : j + 1 + i = j + (i + 1) := by omega
    rw [e] at this
    constructor
    · show x.map (ent j) ++ flat (j + 1) ms = (x.map (ent j) ++ flat (j + 1) (ms.take i)) ++ _
      rw [this.1, List.append_assoc]
      rfl
    · show x.map (ent j) ++ flat (j + 1) (ms.set i m') = (x.map (ent j) ++ flat (j + 1) (ms.take i)) ++ _
      rw [this.2, List.append_assoc]
      rfl
theorem tab_parts {k : Val} : ∀ {m : TabM}, SortedL (tl m) → m = m.filter (fun q => decide (valCmp q.1 k < 0)) ++ (m.filter (fun q => decide (valCmp q.1 k = 0)) ++ m.filter (fun q => decide (0 < valCmp q.1 k)))
  | [], _ => rfl
  | x :: m, h => by
    have h' : SortedL (tl m) := (List.pairwise_cons.1 h).2
    have hx : ∀ y ∈ m, valCmp x.1 y.1 < 0 := fun y hy => (List.pairwise_cons.1 h).1 (y.1, y.2.s) (List.mem_map.2 ⟨y, hy, rfl⟩)
    have ih := tab_parts (k := k) h'
    by_cases h1 : valCmp x.1 k < 0
    · have h2 : ¬ (valCmp x.1 k = 0) := by omega
      have h3 : ¬ (0 < valCmp x.1 k) := by omega
      simp only [List.filter_cons, h1, h2, h3, decide_true, decide_false, if_true, Bool.false_eq_true, if_false, List.cons_append]
      exact congrArg (x :: ·) ih
    · have hgt : ∀ y ∈ m, 0 < valCmp y.1 k := fun y hy => by
        have h2 := hx y hy
        have h3 : valCmp k x.1 ≤ 0 := by rw [cmp_swap x.1 k]; omega
        have := le_lt h3 h2
        exact (gt_iff _ _).2 this
      have e1 : m.filter (fun q => decide (valCmp q.1 k < 0)) = [] := filter_none (fun y hy => by have := hgt y hy; simp; omega)
      have e2 : m.filter (fun q => decide (valCmp q.1 k = 0)) = [] := filter_none (fun y hy => by have := hgt y hy; simp; omega)
      have e3 : m.filter (fun q => decide (0 < valCmp q.1 k)) = m := filter_all (fun y hy => by simpa using hgt y hy)
      simp only [List.filter_cons, e1, e2, e3, decide_eq_true_eq, h1, if_false]
      by_cases h2 : valCmp x.1 k = 0
      · have h3 : ¬ (0 < valCmp x.1 k) := by omega
        simp [h2, h3]
      · have h3 : 0 < valCmp x.1 k := by omega
        simp [h2, h3]
theorem tab_erase {k : Val} (hk : valRight k = true) : ∀ {m : TabM}, SortedL (tl m) → RightL (tl m) → m.eraseP (fun p => decide (p.1 = k)) = delM m k
  | [], _, _ => rfl
  | x :: m, h, hr => by
    have h' : SortedL (tl m) := (List.pairwise_cons.1 h).2
    have hx : ∀ y ∈ m, valCmp x.1 y.1 < 0 := fun y hy => (List.pairwise_cons.1 h).1 (y.1, y.2.s) (List.mem_map.2 ⟨y, hy, rfl⟩)
    have hr' : RightL (tl m) := fun y hy => hr y (List.mem_cons_of_mem _ hy)
    have hxr : valRight x.1 = true := hr (x.1, x.2.s) (List.mem_cons_self ..)
    have ih := tab_erase hk h' hr'
    unfold delM at *
    rw [List.eraseP_cons]
    by_cases h1 : x.1 = k
    · have e : m.filter (fun p => !decide (valCmp p.1 k = 0)) = m := filter_all (fun y hy => by
        have h2 := hx y hy
        rw [h1] at h2
        have := (gt_iff _ _).2 h2
        simp; omega)
      simp [List.filter_cons, h1, cmp_self, e]
    · have h2 : ¬ (valCmp x.1 k = 0) := fun h => h1 (cmp_eq hxr hk h)
      simp only [h1, decide_false, Bool.false_eq_true, cond_false, List.filter_cons, h2, Bool.not_false, if_true]
      rw [ih]
end Go.Proofs.Ytcbklkcpjldcjaa

/- The document's places and the store as data: each act answers the same. -/
namespace Go.Proofs.Ytcbklkcpjldcjaa
open Go.ChangeShapes Go.WideShapes Go.ChangeAt Go.RowKit
set_option maxRecDepth 100000
set_option linter.unusedSimpArgs false

/-- the answer beside the store -/
structure RefI (D : PH) (L : List Pl) (A : StM) : Prop where
  same : L.map Pl.b = flat 0 A.tabs
  hd : ∀ q ∈ L, q.rn = q.row.length
  fits : ∀ q ∈ L, q.k.fits
  rows : RowsD D L

section
variable {D : PH} {L : List Pl} {A : StM} {n : Nat} {t : Int} {k : Val}
theorem RefI.len (h : RefI D L A) (hI : StI n A) : (L.length : Int) = A.used := by
  have h1 : L.length = (flat 0 A.tabs).length := by rw [← h.same, List.length_map]
  rw [h1, flatB_len, hI.used]
theorem RefI.lok (h : RefI D L A) (hI : StI n A) : LOk L := by
  refine ⟨h.fits, fun q hq => ?_, ?_⟩
  · have h1 : Pl.b q ∈ flat 0 A.tabs := by rw [← h.same]; exact List.mem_map.2 ⟨q, hq, rfl⟩
    have h2 := flat_mem h1
    have h3 := hI.len
    have h4 := hI.good.some_.2
    have e : (Pl.b q).1 = q.t := rfl
    rw [e] at h2
    omega
  · have h1 := h.len hI
    have h2 := hI.full
    have h3 := hI.room
    omega
theorem flat_find {j : Nat} {m : TabM} (hm : A.tabs[j]? = some m) (k : Val) : (flat 0 A.tabs).find? (bAt (j : Int) k) = (findM m k).map (ent j) := by
  rw [(flat_set A.tabs 0 j m m hm).1, List.find?_append, List.find?_append, List.find?_map]
  have e1 : (flat 0 (A.tabs.take j)).find? (bAt (j : Int) k) = none := List.find?_eq_none.2 (fun x hx => by
    have h1 := flat_mem hx
    have h2 : (A.tabs.take j).length ≤ j := List.length_take_le _ _
    unfold bAt
    have : ¬ (x.1 = (j : Int)) := by omega
    simp [this])
  have e2 : (flat (0 + j + 1) (A.tabs.drop (j + 1))).find? (bAt (j : Int) k) = none := List.find?_eq_none.2 (fun x hx => by
    have h1 := flat_mem hx
    unfold bAt
    have : ¬ (x.1 = (j : Int)) := by omega
    simp [this])
  have e3 : (bAt (j : Int) k ∘ ent (0 + j)) = fun p => decide (p.1 = k) := by
    funext p
    show (decide (((0 + j : Nat) : Int) = (j : Int)) && decide (p.1 = k)) = _
    simp
  rw [e1, e2, e3, Option.none_or, Option.or_none, Nat.zero_add]
  rfl
theorem flat_no (hI : StI n A) (hh : A.has t = false) (k : Val) : (flat 0 A.tabs).find? (bAt t k) = none := List.find?_eq_none.2 (fun x hx => by
  have h1 := flat_mem hx
  have h2 := hI.len
  unfold StM.has at hh
  unfold bAt
  have : ¬ (x.1 = t) := fun e => by
    rw [e] at h1
    simp at hh
    have := hh (by omega)
    omega
  simp [this])
theorem find_b (L : List Pl) (t : Int) (k : Val) : (L.find? (atP t k)).map Pl.b = (L.map Pl.b).find? (bAt t k) := by
  rw [List.find?_map]
  rfl
/-- what stands at a key, in both -/
theorem ref_cases (h : RefI D L A) (hI : StI n A) (t : Int) (k : Val) :
    (∃ (j : Nat) (m : TabM) (i : Nat) (q : Pl) (p : PlM), t = (j : Int) ∧ A.has t = true ∧ A.tabs[j]? = some m ∧ A.tab t = m ∧ atM m k = some p ∧ (k, p) ∈ m ∧ valRight k = true ∧ L.find? (atP t k) = some q ∧ atN L t k = (i : Int) ∧ L[i]? = some q ∧ q ∈ L ∧ q.row = p.row ∧ q.num = p.num ∧ q.rn = p.row.length ∧ (p.kept = true → p.row = [] ∧ p.num = 0) ∧ (p.kept = false → 1 ≤ p.row.length ∧ p.row.length ≤ 4)) ∨
    (L.find? (atP t k) = none ∧ atN L t k = -1 ∧ (A.has t = true → atM (A.tab t) k = none)) := by
  have hb := find_b L t k
  rw [h.same] at hb
  cases hh : A.has t with
  | false =>
    rw [flat_no hI hh] at hb
    rcases atN_cases L t k with ⟨h1, h2⟩ | ⟨i, p, _, _, _, h4⟩
    · exact .inr ⟨h2, h1, fun h => by cases h⟩
    · rw [h4] at hb; cases hb
  | true =>
    obtain ⟨j, c, m, rfl, h2, h3, h4, h5, h6, h7, h8⟩ := hI.at hh
    rw [flat_find h4] at hb
    rcases atN_cases L (j : Int) k with ⟨g1, g2⟩ | ⟨i, q, g1, g2, g3, g4⟩
    · rw [g2] at hb
      refine .inr ⟨g2, g1, fun _ => ?_⟩
      rw [h5]
      unfold atM
      cases hf : findM m k with
      | none => rfl
      | some x => rw [hf] at hb; cases hb
    · rw [g4] at hb
      cases hf : findM m k with
      | none => rw [hf] at hb; cases hb
      | some x =>
        rw [hf] at hb
        have hx1 : atM m k = some x.2 := by unfold atM; rw [hf]; rfl
        have hxm := atM_mem hx1
        have hqL : q ∈ L := List.mem_of_getElem? g3
        have hb' : Pl.b q = ent j x := Option.some.inj hb
        have e1 : q.row = x.2.row := congrArg (fun y : PB => y.2.2.1) hb'
        have e2 : q.num = x.2.num := congrArg (fun y : PB => y.2.2.2) hb'
        refine .inl ⟨j, m, i, q, x.2, rfl, rfl, h4, h5, hx1, hxm, ?_, g4, g1, g3, hqL, e1, e2, by rw [← e1]; exact h.hd q hqL, fun hk => ?_, fun hk => ?_⟩
        · exact h8 (k, x.2.s) (List.mem_map.2 ⟨(k, x.2), hxm, rfl⟩)
        · have := (h6 _ hxm).1 hk
          exact ⟨this.2, this.1⟩
        · have := fits_len ((h6 _ hxm).2 hk).1
          exact ⟨this.1, this.2.1⟩
theorem bool_two (b : Bool) : b = false ∨ b = true := by cases b <;> simp
theorem got_same (h : RefI D L A) (hI : StI n A) (t : Int) (k : Val) : rgot L t k = gotM A t k ∧ rnum L t k = gnum A t k ∧ (A.has t = true → decide (atN L t k < 0) = (!takenM (A.tab t) k && !keptM (A.tab t) k)) := by
  rcases ref_cases h hI t k with ⟨j, m, i, q, p, rfl, hh, h1, h2, h3, h4, hkr, h5, h6, h7, h8, h9, h10, h11, h12, h13⟩ | ⟨h1, h2, h3⟩
  · unfold rgot rnum gnum gotM
    rw [h5, hh, h2, h6]
    unfold takenM keptM slotM
    rw [h3]
    dsimp only
    rcases bool_two p.kept with hk | hk
    · have := h13 hk
      have h0 : ¬ (q.rn = 0) := by omega
      have hi : ¬ ((i : Int) < 0) := by omega
      simp [h0, hi, h10, hk, PlM.s]
    · have := h12 hk
      have h0 : q.rn = 0 := by rw [h11, this.1]; rfl
      have hi : ¬ ((i : Int) < 0) := by omega
      simp [h0, hi, hk]
  · unfold rgot rnum gnum gotM
    rw [h1, h2]
    cases hh : A.has t
    · simp
    · unfold takenM keptM
      rw [h3 hh]
      simp
/-- a place is put in both -/
theorem with_same (h : RefI D L A) {j : Nat} {m : TabM} {p : Pl} {q : PlM} (hm : A.tabs[j]? = some m) (hs : SortedL (tl m)) (ht : p.t = (j : Int)) (hk : p.k = k) (hkf : k.fits) (hrow : q.row = p.row) (hnum : q.num = p.num) (hn : p.rn = p.row.length) (hr : RowD D p.hv p.row) : RefI D (withL L p) (putM A j m k q) := by
  subst hk
  have hsame := h.same
  rw [(flat_set A.tabs 0 j m m hm).1, Nat.zero_add] at hsame
  have hparts : m.map (ent j) = (m.filter (fun q => decide (valCmp q.1 p.k < 0))).map (ent j) ++ ((m.filter (fun q => decide (valCmp q.1 p.k = 0))).map (ent j) ++ (m.filter (fun q => decide (0 < valCmp q.1 p.k))).map (ent j)) := by
    rw [← List.map_append, ← List.map_append, ← tab_parts hs]
  rw [hparts] at hsame
  have hsame2 : L.map Pl.b = (flat 0 (A.tabs.take j) ++ (m.filter (fun q => decide (valCmp q.1 p.k < 0))).map (ent j)) ++ ((m.filter (fun q => decide (valCmp q.1 p.k = 0))).map (ent j) ++ ((m.filter (fun q => decide (0 < valCmp q.1 p.k))).map (ent j) ++ flat (j + 1) (A.tabs.drop (j + 1)))) := by
    rw [hsame]
    simp only [List.append_assoc]
  obtain ⟨X, YZ, rfl, hX, hYZ⟩ := List.map_eq_append_iff.1 hsame2
  obtain ⟨Y, Z, rfl, hY, hZ⟩ := List.map_eq_append_iff.1 hYZ
  have cmpB : ∀ q : Pl, plCmp q p = bCmp (Pl.b q) (Pl.b p) := fun _ => rfl
  have hpt : (Pl.b p).1 = (j : Int) := ht
  have hpk : (Pl.b p).2.1 = p.k := rfl
  have cX : ∀ q ∈ X, plCmp q p < 0 := fun q hq => by
    have hb : Pl.b q ∈ X.map Pl.b := List.mem_map.2 ⟨q, hq, rfl⟩
    rw [hX] at hb
    rw [cmpB]
    unfold bCmp
    rcases List.mem_append.1 hb with hb | hb
    · have h1 := flat_mem hb
      have h2 : (A.tabs.take j).length ≤ j := List.length_take_le _ _
      rw [if_neg (by omega)]
      omega
    · obtain ⟨x, hx, he⟩ := List.mem_map.1 hb
      rw [← he]
      have h1 : (ent j x).1 = (j : Int) := rfl
      rw [if_pos (by omega), hpk]
      simpa [ent] using (List.mem_filter.1 hx).2
  have cY : ∀ q ∈ Y, plCmp q p = 0 := fun q hq => by
    have hb : Pl.b q ∈ Y.map Pl.b := List.mem_map.2 ⟨q, hq, rfl⟩
    rw [hY] at hb
    rw [cmpB]
    unfold bCmp
    obtain ⟨x, hx, he⟩ := List.mem_map.1 hb
    rw [← he]
    have h1 : (ent j x).1 = (j : Int) := rfl
    rw [if_pos (by omega), hpk]
    simpa [ent] using (List.mem_filter.1 hx).2
  have cZ : ∀ q ∈ Z, 0 < plCmp q p := fun q hq => by
    have hb : Pl.b q ∈ Z.map Pl.b := List.mem_map.2 ⟨q, hq, rfl⟩
    rw [hZ] at hb
    rw [cmpB]
    unfold bCmp
    rcases List.mem_append.1 hb with hb | hb
    · obtain ⟨x, hx, he⟩ := List.mem_map.1 hb
      rw [← he]
      have h1 : (ent j x).1 = (j : Int) := rfl
      rw [if_pos (by omega), hpk]
      simpa [ent] using (List.mem_filter.1 hx).2
    · have h1 := flat_mem hb
      rw [if_neg (by omega)]
      omega
  have hw : withL (X ++ (Y ++ Z)) p = X ++ p :: Z := withL_split cX cY cZ
  have hmem : ∀ x ∈ X ++ p :: Z, x = p ∨ x ∈ X ++ (Y ++ Z) := fun x hx => by
    rcases List.mem_append.1 hx with hx | hx
    · exact .inr (List.mem_append_left _ hx)
    · rcases List.mem_cons.1 hx with hx | hx
      · exact .inl hx
      · exact .inr (List.mem_append_right _ (List.mem_append_right _ hx))
  rw [hw]
  refine ⟨?_, fun x hx => ?_, fun x hx => ?_, fun x hx => ?_⟩
  · show (X ++ p :: Z).map Pl.b = flat 0 (A.tabs.set j (insM m p.k q))
    rw [(flat_set A.tabs 0 j m (insM m p.k q) hm).2, Nat.zero_add, List.map_append, List.map_cons, hX, hZ]
    have hp : Pl.b p = ent j (p.k, q) := by
      show (p.t, p.k, p.row, p.num) = ((j : Int), p.k, q.row, q.num)
      rw [ht, hrow, hnum]
    unfold insM
    rw [List.map_append, List.map_cons, hp]
    simp only [List.append_assoc, List.cons_append]
  · rcases hmem x hx with rfl | hx
    · exact hn
    · exact h.hd x hx
  · rcases hmem x hx with rfl | hx
    · exact hkf
    · exact h.fits x hx
  · rcases hmem x hx with rfl | hx
    · exact hr
    · exact h.rows x hx
/-- a place is given up in both -/
theorem erase_same (h : RefI D L A) {j : Nat} {m : TabM} {u : Int} (hm : A.tabs[j]? = some m) (hs : SortedL (tl m)) (hr : RightL (tl m)) (hk : valRight k = true) {i : Nat} {p : PlM} (hi : atN L (j : Int) k = (i : Int)) (hp : atM m k = some p) : RefI D (L.eraseIdx i) { A with tabs := A.tabs.set j (delM m k), used := u } := by
  have he : L.eraseIdx i = L.eraseP (atP (j : Int) k) := by
    rw [List.eraseP_eq_eraseIdx]
    unfold atN at hi
    cases hf : L.findIdx? (atP (j : Int) k) with
    | none => rw [hf] at hi; simp at hi
    | some x =>
      rw [hf] at hi
      have : x = i := by
        have : (x : Int) = (i : Int) := by simpa using hi
        omega
      subst this
      rfl
  refine ⟨?_, fun x hx => h.hd x (List.mem_of_mem_eraseIdx hx), fun x hx => h.fits x (List.mem_of_mem_eraseIdx hx), fun x hx => h.rows x (List.mem_of_mem_eraseIdx hx)⟩
  show (L.eraseIdx i).map Pl.b = flat 0 (A.tabs.set j (delM m k))
  have e1 : (L.eraseP (atP (j : Int) k)).map Pl.b = (L.map Pl.b).eraseP (bAt (j : Int) k) := by
    rw [List.eraseP_map]
    rfl
  have e3 : (bAt (j : Int) k ∘ ent j) = fun p => decide (p.1 = k) := by
    funext p
    show (decide ((j : Int) = (j : Int)) && decide (p.1 = k)) = _
    simp
  rw [he, e1, h.same, (flat_set A.tabs 0 j m (delM m k) hm).1, (flat_set A.tabs 0 j m (delM m k) hm).2, Nat.zero_add]
  rw [List.eraseP_append_right _ (fun x hx => by
    have h1 := flat_mem hx
    have h2 : (A.tabs.take j).length ≤ j := List.length_take_le _ _
    unfold bAt
    have : ¬ (x.1 = (j : Int)) := by omega
    simp [this])]
  rw [List.eraseP_append_left (a := ent j (k, p)) (by unfold bAt ent; simp) _ (List.mem_map.2 ⟨_, atM_mem hp, rfl⟩), List.eraseP_map, e3, tab_erase hk hs hr]
end
end Go.Proofs.Ytcbklkcpjldcjaa

/- The document's acts and the store's: the same answers, the same places. -/
namespace Go.Proofs.Ytcbklkcpjldcjaa
open Go.ChangeShapes Go.WideShapes Go.ChangeAt Go.RowKit
set_option maxRecDepth 100000
set_option linter.unusedSimpArgs false

section
variable {D : PH} {L : List Pl} {A : StM} {n : Nat} {t : Int} {k : Val} {ro : Option Addr} {rn rc : Nat} {r : List Val}
theorem row_n (hr : RowD D (.slice ro rn rc) r) : rn = r.length := by
  obtain ⟨_, _, h⟩ := hr.shape
  cases h
  rfl
theorem key_mem {k : Val} (h : r.head? = some k) : k ∈ r := by
  cases r with
  | nil => cases h
  | cons x r => cases h; exact List.mem_cons_self ..
theorem RefI.last (h : RefI D L A) (z : Int) : RefI D L { A with last := z } := ⟨h.same, h.hd, h.fits, h.rows⟩
theorem ins_ref (h : RefI D L A) (hI : StI n A) (t : Int) (hr : RowD D (.slice ro rn rc) r) (hrf : ∀ v ∈ r, v.fits) :
    (rIns A.cols A.room L A.last t r ro rn rc).2 = ((A.ins t r).1.last, (A.ins t r).2.1, (A.ins t r).2.2) ∧ RefI D (rIns A.cols A.room L A.last t r ro rn rc).1 (A.ins t r).1 ∧ (A.ins t r).1.cols = A.cols ∧ (A.ins t r).1.room = A.room := by
  unfold rIns StM.ins
  have hf : fitsR A.cols t r = A.fits t r := rfl
  rw [hf]
  cases hA : A.fits t r
  · exact ⟨rfl, h, rfl, rfl⟩
  · obtain ⟨j, c, m, rfl, hj, hcj, hm, htab, hok, hs, hrt, hft, hhd, hkr, hr4⟩ := fits_key hI hA
    obtain ⟨g1, g2, g3⟩ := got_same h hI (j : Int) (keyOf r)
    have hh : A.has (j : Int) = true := by unfold StM.fits at hA; rw [Bool.and_eq_true] at hA; exact hA.1
    have hg : gotM A (j : Int) (keyOf r) = takenM m (keyOf r) := by unfold gotM; rw [hh, htab]; rfl
    rw [htab] at g3
    rw [g1, hg, g3 hh, htab, h.len hI, if_pos rfl, if_pos rfl]
    cases ht : takenM m (keyOf r)
    · simp only [Bool.not_false, Bool.true_and, Bool.false_eq_true, if_false]
      cases hb : (!keptM m (keyOf r) && decide (A.room ≤ A.used))
      · simp only [Bool.false_eq_true, if_false]
        exact ⟨rfl, with_same (h.last _) hm hs rfl rfl (hrf _ (key_mem hhd)) rfl rfl (row_n hr) hr, rfl, rfl⟩
      · rw [if_pos rfl, if_pos rfl]
        exact ⟨rfl, h, rfl, rfl⟩
    · rw [if_pos rfl, if_pos rfl]
      exact ⟨rfl, h, rfl, rfl⟩
theorem rep_ref (h : RefI D L A) (hI : StI n A) (t : Int) (hr : RowD D (.slice ro rn rc) r) (hrf : ∀ v ∈ r, v.fits) :
    (rRep A.cols L t r ro rn rc).2 = (A.rep t r).2 ∧ RefI D (rRep A.cols L t r ro rn rc).1 (A.rep t r).1 ∧ (A.rep t r).1.cols = A.cols ∧ (A.rep t r).1.room = A.room ∧ (A.rep t r).1.last = A.last := by
  unfold rRep StM.rep
  have hf : fitsR A.cols t r = A.fits t r := rfl
  rw [hf]
  cases hA : A.fits t r
  · exact ⟨rfl, h, rfl, rfl, rfl⟩
  · obtain ⟨j, c, m, rfl, hj, hcj, hm, htab, hok, hs, hrt, hft, hhd, hkr, hr4⟩ := fits_key hI hA
    obtain ⟨g1, g2, g3⟩ := got_same h hI (j : Int) (keyOf r)
    have hh : A.has (j : Int) = true := by unfold StM.fits at hA; rw [Bool.and_eq_true] at hA; exact hA.1
    have hg : gotM A (j : Int) (keyOf r) = takenM m (keyOf r) := by unfold gotM; rw [hh, htab]; rfl
    rw [g1, hg, g2, htab, if_pos rfl, if_pos rfl]
    cases ht : takenM m (keyOf r)
    · exact ⟨rfl, h, rfl, rfl, rfl⟩
    · rw [if_pos rfl, if_pos rfl]
      refine ⟨rfl, with_same h hm hs rfl rfl (hrf _ (key_mem hhd)) rfl ?_ (row_n hr) hr, rfl, rfl, rfl⟩
      unfold gnum
      rw [hg, ht, htab]
      rfl
theorem rst_ref (h : RefI D L A) (hI : StI n A) (t num : Int) (hr : RowD D (.slice ro rn rc) r) (hrf : ∀ v ∈ r, v.fits) :
    (rRst A.cols L t r ro rn rc num).2 = (A.rst t r num).2 ∧ RefI D (rRst A.cols L t r ro rn rc num).1 (A.rst t r num).1 ∧ (A.rst t r num).1.cols = A.cols ∧ (A.rst t r num).1.room = A.room ∧ (A.rst t r num).1.last = A.last := by
  unfold rRst StM.rst
  have hf : fitsR A.cols t r = A.fits t r := rfl
  rw [hf]
  cases hA : A.fits t r
  · exact ⟨rfl, h, rfl, rfl, rfl⟩
  · obtain ⟨j, c, m, rfl, hj, hcj, hm, htab, hok, hs, hrt, hft, hhd, hkr, hr4⟩ := fits_key hI hA
    obtain ⟨g1, g2, g3⟩ := got_same h hI (j : Int) (keyOf r)
    have hh : A.has (j : Int) = true := by unfold StM.fits at hA; rw [Bool.and_eq_true] at hA; exact hA.1
    have hg : gotM A (j : Int) (keyOf r) = takenM m (keyOf r) := by unfold gotM; rw [hh, htab]; rfl
    rw [htab] at g3
    have hx : (takenM m (keyOf r) || (!takenM m (keyOf r) && !keptM m (keyOf r))) = !keptM m (keyOf r) := by
      unfold takenM keptM
      cases atM m (keyOf r) with
      | none => rfl
      | some p => cases hk : p.kept <;> simp [hk]
    rw [g1, hg, g3 hh, hx, htab, if_pos rfl, if_pos rfl]
    cases ht : keptM m (keyOf r)
    · exact ⟨rfl, h, rfl, rfl, rfl⟩
    · exact ⟨rfl, with_same h hm hs rfl rfl (hrf _ (key_mem hhd)) rfl rfl (row_n hr) hr, rfl, rfl, rfl⟩
theorem rmv_ref (h : RefI D L A) (hI : StI n A) (t : Int) (hkf : k.fits) :
    (rRmv A.cols L t k).2 = (A.rmv t k).2 ∧ RefI D (rRmv A.cols L t k).1 (A.rmv t k).1 ∧ (A.rmv t k).1.cols = A.cols ∧ (A.rmv t k).1.room = A.room ∧ (A.rmv t k).1.last = A.last := by
  unfold rRmv StM.rmv
  have hf : (decide (0 ≤ t) && decide (t < (A.cols.length : Int))) = A.has t := rfl
  rw [hf]
  cases hA : A.has t
  · exact ⟨rfl, h, rfl, rfl, rfl⟩
  · obtain ⟨j, c, m, rfl, hj, hcj, hm, htab, hok, hs, hrt⟩ := hI.at hA
    obtain ⟨g1, g2, g3⟩ := got_same h hI (j : Int) k
    have hg : gotM A (j : Int) k = takenM m k := by unfold gotM; rw [hA, htab]; rfl
    rw [g1, hg, htab, if_pos rfl, if_pos rfl]
    cases ht : takenM m k
    · exact ⟨rfl, h, rfl, rfl, rfl⟩
    · exact ⟨rfl, with_same h hm hs rfl rfl hkf rfl rfl rfl (RdP.nil _ _), rfl, rfl, rfl⟩
theorem fre_ref (h : RefI D L A) (hI : StI n A) (t : Int) (k : Val) :
    (rFre A.cols L t k).2 = (A.fre t k).2 ∧ RefI D (rFre A.cols L t k).1 (A.fre t k).1 ∧ (A.fre t k).1.cols = A.cols ∧ (A.fre t k).1.room = A.room ∧ (A.fre t k).1.last = A.last := by
  unfold rFre StM.fre
  have hf : (decide (0 ≤ t) && decide (t < (A.cols.length : Int))) = A.has t := rfl
  rw [hf]
  cases hA : A.has t
  · exact ⟨rfl, h, rfl, rfl, rfl⟩
  · obtain ⟨j, c, m, rfl, hj, hcj, hm, htab, hok, hs, hrt⟩ := hI.at hA
    obtain ⟨g1, g2, g3⟩ := got_same h hI (j : Int) k
    have hg : gotM A (j : Int) k = takenM m k := by unfold gotM; rw [hA, htab]; rfl
    rw [htab] at g3
    rw [g1, hg, htab, if_pos rfl, if_pos rfl]
    cases ht : takenM m k
    · simp only [Bool.false_eq_true, if_false]
      have g4 := g3 hA
      rw [ht] at g4
      cases hk : keptM m k
      · rw [hk] at g4
        have : atN L (j : Int) k < 0 := by simpa using g4
        rw [if_pos this]
        simp only [Bool.false_eq_true, if_false]
        exact ⟨trivial, h, trivial, trivial, trivial⟩
      · rw [hk] at g4
        have hneg : ¬ (atN L (j : Int) k < 0) := by simpa using g4
        rw [if_neg hneg, if_pos rfl]
        rcases ref_cases h hI (j : Int) k with ⟨j', m', i, q, p, e, hh, h1, h2, h3, h4, hkr, h5, h6, h7, h8, h9, h10, h11, h12, h13⟩ | ⟨h1, h2, h3⟩
        · have : j' = j := by omega
          subst this
          rw [htab] at h2
          subst h2
          refine ⟨rfl, ?_, rfl, rfl, rfl⟩
          rw [h6]
          exact erase_same h hm hs hrt hkr h6 h3
        · omega
    · exact ⟨rfl, h, rfl, rfl, rfl⟩
/-- a span's rows -/
theorem scan_same (h : RefI D L A) (hI : StI n A) (t : Int) (sp : Spn) : (L.filter (scP t sp)).map Pl.row = scanA A t sp := by
  have e1 : L.filter (scP t sp) = L.filter ((fun x : PB => decide (x.1 = t) && spanIn sp x.2.1 && decide (0 < x.2.2.1.length)) ∘ Pl.b) := List.filter_congr (fun q hq => by
    unfold scP
    rw [h.hd q hq]
    rfl)
  have e2 : (L.filter (scP t sp)).map Pl.row = ((L.map Pl.b).filter (fun x : PB => decide (x.1 = t) && spanIn sp x.2.1 && decide (0 < x.2.2.1.length))).map (fun x => x.2.2.1) := by
    rw [e1, List.filter_map, List.map_map]
    rfl
  rw [e2, h.same]
  unfold scanA StM.tab
  cases hA : A.has t
  · rw [filter_none (fun x hx => by
      have h1 := flat_mem hx
      have h2 := hI.len
      unfold StM.has at hA
      have : ¬ (x.1 = t) := fun e => by
        rw [e] at h1
        simp at hA
        have := hA (by omega)
        omega
      simp [this])]
    rfl
  · obtain ⟨j, c, m, rfl, hj, hcj, hm, htab, hok, hs, hrt⟩ := hI.at hA
    have ht : A.tabs.getD (j : Int).toNat [] = m := by simp [List.getD_eq_getElem?_getD, hm]
    rw [if_pos rfl, ht, (flat_set A.tabs 0 j m m hm).1, Nat.zero_add, List.filter_append, List.filter_append]
    rw [filter_none (l := flat 0 (A.tabs.take j)) (fun x hx => by
      have h1 := flat_mem hx
      have h2 : (A.tabs.take j).length ≤ j := List.length_take_le _ _
      have : ¬ (x.1 = (j : Int)) := by omega
      simp [this])]
    rw [filter_none (l := flat (j + 1) (A.tabs.drop (j + 1))) (fun x hx => by
      have h1 := flat_mem hx
      have : ¬ (x.1 = (j : Int)) := by omega
      simp [this])]
    rw [List.nil_append, List.append_nil, List.filter_map, List.map_map]
    have e3 : m.filter ((fun x : PB => decide (x.1 = (j : Int)) && spanIn sp x.2.1 && decide (0 < x.2.2.1.length)) ∘ ent j) = m.filter (fun p => spanIn sp p.1 && !p.2.kept) := List.filter_congr (fun p hp => by
      show (decide ((j : Int) = (j : Int)) && spanIn sp p.1 && decide (0 < p.2.row.length)) = _
      have h1 := hok p hp
      cases hk : p.2.kept
      · have := (fits_len (h1.2 hk).1).1
        have h3 : 0 < p.2.row.length := by omega
        simp [h3]
      · have := (h1.1 hk).2
        rw [this]
        simp)
    rw [e3]
    rfl
/-- what Get tells -/
theorem row_same (h : RefI D L A) (hI : StI n A) (t : Int) (k : Val) : ∃ v : Value, rgetV L t k = .tuple #[v, .int .i64 (gnum A t k), .bool (gotM A t k)] ∧ RowD D v (grow A t k) := by
  rcases ref_cases h hI t k with ⟨j, m, i, q, p, rfl, hh, h1, h2, h3, h4, hkr, h5, h6, h7, h8, h9, h10, h11, h12, h13⟩ | ⟨h1, h2, h3⟩
  · unfold rgetV gnum grow gotM
    rw [h5, hh, h2]
    unfold takenM slotM rowM
    rw [h3]
    dsimp only
    rcases bool_two p.kept with hk | hk
    · have := h13 hk
      have h0 : ¬ (q.rn = 0) := by omega
      rw [if_neg h0]
      refine ⟨q.hv, by simp [h10, hk, PlM.s], ?_⟩
      have hq := h.rows q h8
      rw [h9] at hq
      simp only [hk, Bool.not_false, Bool.true_and, if_true]
      exact hq
    · have := h12 hk
      have h0 : q.rn = 0 := by rw [h11, this.1]; rfl
      rw [if_pos h0]
      refine ⟨_, by simp [hk]; rfl, ?_⟩
      simp only [hk, Bool.not_true, Bool.true_and, Bool.false_eq_true, if_false]
      exact RdP.nil _ _
  · have hg : gotM A t k = false := by
      unfold gotM
      cases hh : A.has t
      · rfl
      · unfold takenM
        rw [h3 hh]
        rfl
    unfold rgetV gnum grow
    rw [h1, hg]
    simp only [Bool.false_eq_true, if_false]
    exact ⟨.slice none 0 0, rfl, RdP.nil _ _⟩
end
end Go.Proofs.Ytcbklkcpjldcjaa
