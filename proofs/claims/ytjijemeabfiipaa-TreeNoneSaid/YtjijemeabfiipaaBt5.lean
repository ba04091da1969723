/- The tree: Put, by what the tree stands for. -/
import Derived.Test.YtjijemeabfiipaaBt4
namespace Go.Proofs.Ytjijemeabfiipaa
open Go.ChangeShapes Go.WideShapes Go.ChangeAt Go.RowKit
set_option maxRecDepth 100000
set_option linter.unusedSimpArgs false

theorem insL_nil (k : Val) (v : VT) : insL [] k v = [(k, v)] := rfl
theorem insL_lt {L : PL} {x : Val × VT} {k : Val} {v : VT} (h : valCmp x.1 k < 0) : insL (x :: L) k v = x :: insL L k v := by
  unfold insL
  rw [List.filter_cons_of_pos (by simpa using h), List.filter_cons_of_neg (by simp; omega)]
  rfl
theorem all_gt {L : PL} {x : Val × VT} {k : Val} (hs : SortedL (x :: L)) (h : ¬ valCmp x.1 k < 0) : ∀ y ∈ L, valCmp k y.1 < 0 := fun y hy => by
  have h1 := (List.pairwise_cons.1 hs).1 y hy
  have h2 : valCmp k x.1 ≤ 0 := by rw [cmp_swap]; omega
  exact le_lt h2 h1
theorem insL_ge {L : PL} {x : Val × VT} {k : Val} {v : VT} (hs : SortedL (x :: L)) (h : ¬ valCmp x.1 k < 0) : insL (x :: L) k v = if valCmp x.1 k = 0 then (k, v) :: L else (k, v) :: x :: L := by
  have hL := all_gt hs h
  split
  · rename_i h0
    exact insL_at (A := []) (M := [x]) (Bs := L) (by simp) (by intro y hy; simp at hy; subst hy; exact h0) hL
  · rename_i h0
    exact insL_at (A := []) (M := []) (Bs := x :: L) (by simp) (by simp) (fun y hy => by
      rcases List.mem_cons.1 hy with rfl | hy
      · exact (gt_iff _ _).1 (by omega)
      · exact hL y hy)
theorem insL_len {k : Val} {v : VT} : ∀ {L : PL}, SortedL L → (insL L k v).length = L.length + (if hasK L k then 0 else 1)
  | [], _ => by simp [insL_nil, hasK]
  | x :: L, hs => by
    by_cases h : valCmp x.1 k < 0
    · rw [insL_lt h, List.length_cons, insL_len (List.pairwise_cons.1 hs).2]
      have : hasK (x :: L) k = hasK L k := by simp [hasK]; omega
      rw [this, List.length_cons]; omega
    · rw [insL_ge hs h]
      split
      · rename_i h0
        have : hasK (x :: L) k = true := by simp [hasK, h0]
        rw [this]; simp
      · rename_i h0
        have : hasK (x :: L) k = false := by
          unfold hasK
          refine List.any_eq_false.2 (fun y hy => ?_)
          rcases List.mem_cons.1 hy with rfl | hy
          · simpa using h0
          · have := (gt_iff y.1 k).2 (all_gt hs h y hy)
            simp; omega
        rw [this]; simp

/-- what a tree stands for -/
structure Good (T : TM) (L : PL) : Prop where
  sorted : SortedL L
  right : RightL L
  many : T.k.many = (L.length : Int)
  rep : (T.k.root < 0 ∧ L = [] ∧ T.k.depth = 0 ∧ T.free.Perm (List.range T.nodes.length)) ∨
    ∃ (r d : Nat) (ids : List Nat) (m : NodeM), T.k.root = (r : Int) ∧ T.k.depth = (d : Int) + 1 ∧ Rep T.nodes d r L ids ∧ (ids ++ T.free).Perm (List.range T.nodes.length) ∧ T.nodes[r]? = some m ∧ (if m.leaf then 1 else 2) ≤ m.size ∧ m.size ≤ 4
/-- n things were done -/
structure Small (T : TM) (L : PL) (n : Nat) : Prop where
  depth : T.k.depth ≤ (n : Int)
  nodes : T.nodes.length ≤ n * (n + 3)
  len : L.length ≤ n
def putL (L : PL) (k : Val) (v : VT) : PL := if valRight k then insL L k v else L
def putB (L : PL) (k : Val) : Bool := valRight k && !hasK L k
theorem small_next (n : Nat) : n * (n + 3) + n + 1 ≤ (n + 1) * (n + 1 + 3) := by
  have : (n + 1) * (n + 1 + 3) = n * (n + 3) + 2 * n + 4 := by simp only [Nat.add_mul, Nat.mul_add]; omega
  omega
theorem Small.bound {T : TM} {L : PL} {n : Nat} (h : Small T L n) (hn : n ≤ 500) : T.nodes.length ≤ 251500 ∧ T.k.depth ≤ 500 ∧ L.length ≤ 500 := by
  have h1 := h.nodes
  have h2 := h.depth
  have h3 := h.len
  have h4 : n * (n + 3) ≤ 500 * 503 := Nat.mul_le_mul (by omega) (by omega)
  omega
theorem room_trans {a b c : Nat} {f g : List Nat} (h1 : b = a ∨ f = []) (h2 : c = b ∨ g = []) (h3 : g.length ≤ f.length) : c = a ∨ g = [] := by
  rcases h2 with h2 | h2
  · rcases h1 with h1 | h1
    · exact .inl (by omega)
    · rw [h1] at h3; exact .inr (List.length_eq_zero_iff.1 (by simpa using h3))
  · exact .inr h2
theorem slot_free (T : TM) (b : Bool) : (T.slot b).2.free.length ≤ T.free.length := by unfold TM.slot; split <;> simp
theorem TM.Split.free {T T' : TM} {i c : Nat} (h : T.Split i c T') : T'.free.length ≤ T.free.length := by
  obtain ⟨mi, kid, mk', sep, _, _, _, _, _, rfl⟩ := h
  exact slot_free T _

theorem slot_node (T : TM) (b : Bool) (h : ∀ x, T.free.getLast? = some x → x < T.nodes.length) : (T.slot b).2.nodes[(T.slot b).1]? = some (freshM b) := by
  unfold TM.slot
  split
  · rename_i x hx
    dsimp only
    rw [List.getElem?_set_self (h x hx)]
  · simp
/-- the state behind Put -/
structure Next (T T' : TM) (L L' : PL) : Prop where
  good : Good T' L'
  depth : T'.k.depth ≤ T.k.depth + 1
  nodes : (T'.nodes.length : Int) ≤ T.nodes.length + T.k.depth + 1
  len : L'.length ≤ L.length + 1
  room : T'.nodes.length = T.nodes.length ∨ T'.free = []
theorem Next.small {T T' : TM} {L L' : PL} {n : Nat} (h : Next T T' L L') (hs : Small T L n) : Small T' L' (n + 1) := by
  have h1 := hs.depth
  have h2 := hs.nodes
  have h3 := hs.len
  have h4 := h.depth
  have h5 := h.nodes
  have h6 := h.len
  have h7 := small_next n
  exact ⟨by omega, by omega, by omega⟩

set_option maxHeartbeats 1000000 in
theorem Put_ok {B w : World} {D : PH} {t n : Nat} {T : TM} {L : PL} {l : List HP} (k : Val) (v : VT) (hG : Good T L) (hS : Small T L n) (hn : n ≤ 500) (h : TreeA B D w t T l) :
    Calls Try.prog 12 #[.pointer (some ⟨t, 0, none⟩), k.v, .int .i64 v] w fun e w' => ∃ T', e = .returned (.bool (putB L k)) ∧ TreeA B D w' t T' l ∧ Next T T' L (putL L k v) := by
  have hk0 : 0 ≤ T.k.depth := by rcases hG.rep with ⟨_, _, h, _⟩ | ⟨r, d, ids, m, _, h, _⟩ <;> omega
  obtain ⟨b1, b2, b3⟩ := hS.bound hn
  cases hr : valRight k
  · refine (Put_bad hr (.inr ⟨t, rfl⟩)).mono ?_
    rintro e w' ⟨rfl, hk⟩
    refine ⟨T, by unfold putB; rw [hr]; rfl, h.kept hk, ?_⟩
    unfold putL
    rw [hr]
    exact ⟨hG, by omega, by omega, by simp, .inl rfl⟩
  · have eL : putL L k v = insL L k v := by unfold putL; rw [hr]; rfl
    have eB : putB L k = !hasK L k := by unfold putB; rw [hr]; rfl
    rw [eL, eB]
    have hlenI := insL_len (k := k) (v := v) hG.sorted
    have hsI := insL_sorted (k := k) (v := v) hG.sorted
    have hrI := insL_right (v := v) hr hG.right
    have hmore : ∀ fr : Bool, fr = (!hasK L k) → T.k.many + (if fr then 1 else 0) = ((insL L k v).length : Int) := by
      intro fr e
      rw [hlenI, hG.many, e]
      cases hasK L k <;> simp
    have hfit : T.k.fit := by
      have := hG.many
      exact ⟨by omega, by omega, by omega, by omega⟩
    have mm : ∀ (T1 : TM) (fr : Bool), (T1.more fr).k.root = T1.k.root ∧ (T1.more fr).k.depth = T1.k.depth ∧ (T1.more fr).nodes = T1.nodes ∧ (T1.more fr).free = T1.free ∧ (T1.more fr).k.many = T1.k.many + (if fr then 1 else 0) := by
      intro T1 fr; cases fr <;> simp [TM.more]
    rcases hG.rep with ⟨hr0, rfl, hd0, hp⟩ | ⟨r, d, ids, m, hroot, hdep, hR, hp, hm, hm1, hm4⟩
    · -- the first key
      obtain ⟨q1, q2, q3, q4, q5, q6, q7, q8, q9⟩ := slot_law (T := T) (b := true) (xs := []) (by simpa using hp)
      have hsl : T.maySlot := ⟨fun x hx => (q6 x hx).1, by omega, by omega⟩
      have hnode := slot_node T true hsl.1
      obtain ⟨T1, ids1, m0, m1, g1, g2, g3, g4, g5, g6, g7, g8, g9, g10, g11⟩ := put_law (v := v) hr 0 T.first (T.slot true).1 [] [(T.slot true).1] [] ⟨freshM true, hnode, rfl, rfl, rfl, rfl, rfl⟩ (by simpa [TM.first] using q1) (by simp) (by intro x hx; simp at hx) (by simp [TM.first]; omega) (fun m hm => by
        have hm' : (T.slot true).2.nodes[(T.slot true).1]? = some m := hm
        rw [hnode] at hm'; cases hm'; simp [NodeM.size, freshM])
      have hm0 : m0 = freshM true := by
        have hm' : (T.slot true).2.nodes[(T.slot true).1]? = some m0 := g5
        rw [hnode] at hm'; cases hm'; rfl
      have hz1 : m1.size ≤ 4 := by have : m0.size = 0 := by rw [hm0]; rfl
                                   omega
      refine (Put_new hr hr0 hsl hfit g1 g6 hz1 h).mono ?_
      rintro e w' ⟨rfl, ha⟩
      obtain ⟨e1, e2, e3, e4, e5⟩ := mm T1 (!hasK ([] : PL) k)
      have hk1 : T1.k = { T.k with root := ((T.slot true).1 : Int), depth := 1 } := g1.keep
      have hfn : T.first.nodes = (T.slot true).2.nodes := rfl
      have hff : T.first.free = (T.slot true).2.free := rfl
      have hlf : m1.leaf = true := by rw [g7, hm0]; rfl
      refine ⟨_, rfl, ha, ⟨hsI, hrI, ?_, .inr ⟨(T.slot true).1, 0, ids1, m1, ?_, ?_, ?_, ?_, ?_, ?_, hz1⟩⟩, ?_, ?_, by simp [insL_nil], ?_⟩
      · rw [e5, hk1]; exact hmore _ rfl
      · rw [e1, hk1]
      · rw [e2, hk1]; rfl
      · rw [e3]; exact g2
      · rw [e3, e4]; simpa using g3
      · rw [e3]; exact g6
      · rw [hlf, if_pos rfl]
        obtain ⟨m', hm', _, _, h3, h4, _⟩ := g2
        rw [g6] at hm'; cases hm'
        have := congrArg List.length h4
        rw [insL_nil, List.length_zip, h3] at this
        unfold NodeM.size
        rw [hlf, if_pos rfl]
        simp at this; omega
      · rw [e2, hk1]; show (1 : Int) ≤ _; omega
      · rw [e3]; rw [hfn] at g10; omega
      · rw [e3, e4]
        refine room_trans q5 (by rw [hfn] at g11; exact g11) ?_
        have := g3.length_eq
        have h2 := q1.length_eq
        simp at this h2
        obtain ⟨m', _, _, _, _, _, h5⟩ := g2
        rw [h5] at this
        rw [hfn] at g10
        simp at this; omega
    · obtain ⟨T1, ids1, m0, m1, g1, g2, g3, g4, g5, g6, g7, g8, g9, g10, g11⟩ := put_law (v := v) hr d T r L ids [] hR (by simpa using hp) hG.sorted hG.right (by omega) (fun m' hm' => by rw [hm] at hm'; cases hm'; exact hm4)
      rw [hm] at g5; cases g5
      have hk1 : T1.k = T.k := g1.keep
      simp only [List.append_nil] at g3
      by_cases hz1 : m1.size ≤ 4
      · refine (Put_small hr hroot hfit g1 g6 hz1 h).mono ?_
        rintro e w' ⟨rfl, ha⟩
        obtain ⟨e1, e2, e3, e4, e5⟩ := mm T1 (!hasK L k)
        refine ⟨_, rfl, ha, ⟨hsI, hrI, ?_, .inr ⟨r, d, ids1, m1, ?_, ?_, ?_, ?_, ?_, ?_, hz1⟩⟩, ?_, ?_, ?_, ?_⟩
        · rw [e5, hk1]; exact hmore _ rfl
        · rw [e1, hk1]; exact hroot
        · rw [e2, hk1]; exact hdep
        · rw [e3]; exact g2
        · rw [e3, e4]; exact g3
        · rw [e3]; exact g6
        · rw [g7]; omega
        · rw [e2, hk1]; omega
        · rw [e3]; omega
        · rw [hlenI]; split <;> omega
        · rw [e3, e4]; exact g11
      · obtain ⟨q1, q2, q3, q4, q5, q6, q7, q8, q9⟩ := slot_law (T := T1) (b := false) (xs := ids1) g3
        have hsl : T1.maySlot := ⟨fun x hx => (q6 x hx).1, by omega, by omega⟩
        have hlt : (T1.slot false).1 < (T1.slot false).2.nodes.length := q7
        have hrm : r ∈ ids1 := g2.self
        have hne : ∀ x ∈ ids1, (T1.slot false).1 ≠ x := fun x hx e => q3 (by rw [e]; exact hx)
        have hnt : ∀ x ∈ ids1, (T1.top r).nodes[x]? = T1.nodes[x]? := fun x hx => by
          unfold TM.top; dsimp only
          rw [List.getElem?_set_ne (hne x hx)]
          exact q2 x hx
        have htop : (T1.top r).nodes[(T1.slot false).1]? = some { freshM false with kids := [r] } := by
          unfold TM.top; dsimp only
          rw [List.getElem?_set_self hlt]
        have hlen2 : (T1.top r).nodes.length = (T1.slot false).2.nodes.length := by unfold TM.top; simp
        obtain ⟨T3, ids3, m3, s1, s2, s3, s4, s5, s6, s7, s8, s9, s10⟩ := split_law (T := T1.top r) (d := d) (i := (T1.slot false).1) (m := { freshM false with kids := [r] }) (mk := m1) (A := []) (Bs := []) (c1 := ⟨r, insL L k v, ids1⟩) (ctx := []) htop rfl rfl rfl rfl (by simp)
          (g2.frame hnt) (by rw [hnt r hrm]; exact g6) (by omega) (by intro j y hy; simp [freshM] at hy) (by simp [freshM]) hsI (by rw [hlen2]; simpa [TM.top] using q1) (by omega) (by simp [freshM])
        refine (Put_grown hr hroot hfit g1 g6 (by omega) hsl s1 h).mono ?_
        rintro e w' ⟨rfl, ha⟩
        obtain ⟨e1, e2, e3, e4, e5⟩ := mm (T3.high (T1.slot false).1) (!hasK L k)
        have hk3 : T3.k = T.k := by rw [s10]; show (T1.slot false).2.k = _; rw [slot_k, hk1]
        refine ⟨_, rfl, ha, ⟨hsI, hrI, ?_, .inr ⟨(T1.slot false).1, d + 1, ids3, m3, ?_, ?_, ?_, ?_, ?_, ?_, ?_⟩⟩, ?_, ?_, ?_, ?_⟩
        · rw [e5]; show T3.k.many + _ = _; rw [hk3]; exact hmore _ rfl
        · rw [e1]; rfl
        · rw [e2]; show T3.k.depth + 1 = _; rw [hk3, hdep]; omega
        · rw [e3]; simpa [TM.high] using s2
        · rw [e3, e4]; simpa [TM.high] using s3
        · rw [e3]; exact s5
        · rw [s6, s7]; simp [NodeM.size, freshM]
        · rw [s7]; simp [NodeM.size, freshM]
        · rw [e2]; show T3.k.depth + 1 ≤ _; rw [hk3]; omega
        · rw [e3]; show (T3.nodes.length : Int) ≤ _; omega
        · rw [hlenI]; split <;> omega
        · rw [e3, e4]
          show T3.nodes.length = _ ∨ T3.free = []
          have f1 := slot_free T1 false
          have f2 : T3.free.length ≤ (T1.slot false).2.free.length := s1.free
          exact room_trans (room_trans g11 q5 f1) (by rw [← hlen2]; exact s9) f2
end Go.Proofs.Ytjijemeabfiipaa
