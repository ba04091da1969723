/- Of no program: what a slice value holds (to be read; to be appended to), what a call leaves as it was, and append's law over these words. -/
import Derived.Test.YtjijemeabfiipaaCanon
import Derived.Deep.AppendLies
namespace Go.Proofs.Ytjijemeabfiipaa
open Go.ChangeShapes Go.WideShapes Go.ChangeAt Go.RowKit

/-! ### what is kept -/

/-- w' is as w was but for the blocks of S and new ones -/
structure Kept (S : Nat → Prop) (w w' : World) : Prop where
  os : w'.os = w.os
  tape : w'.tape = w.tape
  output : w'.output = w.output
  size : w.heap.size ≤ w'.heap.size
  block : ∀ k, k < w.heap.size → ¬ S k → w'.heap[k]? = w.heap[k]?

attribute [go_sem] Lib.run_eql_slice_nil

namespace Kept
variable {S T : Nat → Prop} {w w1 w2 : World}
theorem refl (S : Nat → Prop) (w : World) : Kept S w w := ⟨rfl, rfl, rfl, Nat.le_refl _, fun _ _ _ => rfl⟩
theorem trans (h : Kept S w w1) (k : Kept T w1 w2) (hT : ∀ k, T k → S k ∨ w.heap.size ≤ k) : Kept S w w2 :=
  ⟨k.os.trans h.os, k.tape.trans h.tape, k.output.trans h.output, Nat.le_trans h.size k.size, fun i hi hs => by
    have hnt : ¬ T i := fun ht => (hT i ht).elim hs (fun h1 => by omega)
    rw [k.block i (Nat.lt_of_lt_of_le hi h.size) hnt, h.block i hi hs]⟩
theorem mono (h : Kept S w w1) (hT : ∀ k, k < w.heap.size → S k → T k) : Kept T w w1 := ⟨h.os, h.tape, h.output, h.size, fun i hi hs => h.block i hi (fun h1 => hs (hT i hi h1))⟩
theorem drew (h : Kept S w w1) : Kept S w w1.drew := ⟨h.os, h.tape, h.output, h.size, h.block⟩
theorem drewN (h : Kept S w w1) (n : Nat) : Kept S w (w1.drewN n) := ⟨h.os, h.tape, h.output, h.size, h.block⟩
theorem alloc (h : Kept S w w1) (o : Obj) : Kept S w (w1.alloc o) := h.trans (T := fun _ => False) ⟨rfl, rfl, rfl, by simp, fun k hk _ => Below.heap_alloc _ _ _ hk⟩ (fun _ h => h.elim)
theorem setCell (h : Kept S w w1) (p : Addr) (u : Value) (hp : S p.block ∨ w.heap.size ≤ p.block) : Kept S w (w1.setCell p u) :=
  h.trans (T := fun k => k = p.block) ⟨rfl, rfl, rfl, by simp [World.setCell], fun k _ hk => Below.heap_setCell _ _ _ _ hk⟩ (fun _ h => h ▸ hp)
theorem set_at (w : World) (b j : Nat) (u : Value) : Kept (fun k => k = b) w (w.setCell ⟨b, j, none⟩ u) := (refl _ w).setCell ⟨b, j, none⟩ u (.inl rfl)
theorem of_below {B : Nat} (h : Below B w w1) : Kept (fun k => B ≤ k) w w1 := ⟨h.os, h.tape, h.output, h.size, fun k _ hk => h.block k (by omega)⟩
theorem of_grown {row : Option Nat} (h : w.grownBy w1 row) : Kept (fun k => some k = row) w w1 := ⟨h.os, h.tape, h.output, h.size, fun k hk hs => h.block k hk hs⟩
theorem below (h : Kept S w w1) {B : Nat} (hB : B ≤ w.heap.size) (hS : ∀ k, S k → B ≤ k) : Below B w w1 := ⟨h.os, h.tape, h.output, h.size, fun k hk => h.block k (by omega) (fun hs => by have := hS k hs; omega)⟩
theorem cell (h : Kept S w w1) {p : Addr} (hp : p.block < w.heap.size) (hs : ¬ S p.block) : w1.cell? p = w.cell? p := World.cell?_of_block (h.block _ hp hs)
theorem frozen (h : Kept S w w1) {p : Addr} (hp : p.block < w.heap.size) (hs : ¬ S p.block) : w1.frozen? p = w.frozen? p := World.frozen?_of_block (h.block _ hp hs)
theorem cell' (h : Kept S w w1) {p : Addr} {u : Value} (hc : w.cell? p = some u) (hs : ¬ S p.block) : w1.cell? p = some u := (h.cell (World.block_lt_of_cell? w p hc) hs).trans hc
end Kept

theorem lt_of_heap {w : World} {g : Nat} {o : Obj} (h : w.heap[g]? = some o) : g < w.heap.size := (Array.getElem?_eq_some_iff.1 h).1
theorem add_none (g o n : Nat) : (⟨g, o, none⟩ : Addr).add n = ⟨g, o + n, none⟩ := by unfold Addr.add; split <;> simp_all

/-! ### a slice that is read -/

/-- v is a slice of n elements of so many cells each; its cells are xs -/
def Rd (w : World) (size : Nat) (v : Value) (n : Nat) (xs : List Value) : Prop :=
  xs.length = n * size ∧ n ≤ maxLen ∧ ∃ ao cap, v = .slice ao n cap ∧ n ≤ cap ∧ cap ≤ maxLen ∧ (ao = none → cap = 0) ∧ (n = 0 ∨ ∃ g o, ao = some ⟨g, o, none⟩ ∧ ∀ j u, xs[j]? = some u → w.cell? ⟨g, o + j, none⟩ = some u)

theorem Rd.nil (w : World) (size : Nat) : Rd w size (.slice none 0 0) 0 [] := ⟨by simp, Nat.zero_le _, none, 0, rfl, Nat.le_refl _, Nat.zero_le _, fun _ => rfl, .inl rfl⟩

theorem Rd.frame {w w' : World} {size : Nat} {v : Value} {n : Nat} {xs : List Value} (h : Rd w size v n xs) (hb : ∀ g, v.ownBlock = some g → g < w.heap.size → w'.heap[g]? = w.heap[g]?) : Rd w' size v n xs := by
  obtain ⟨h1, h2, ao, cap, rfl, h3, h4, h5, h6⟩ := h
  refine ⟨h1, h2, ao, cap, rfl, h3, h4, h5, ?_⟩
  rcases h6 with h6 | ⟨g, o, rfl, h6⟩
  · exact .inl h6
  · refine .inr ⟨g, o, rfl, fun j u hu => ?_⟩
    have hc := h6 j u hu
    rw [World.cell?_of_block (w := w) (hb g rfl (World.block_lt_of_cell? w _ hc))]
    exact hc

theorem Rd.kept {S : Nat → Prop} {w w' : World} {size : Nat} {v : Value} {n : Nat} {xs : List Value} (h : Rd w size v n xs) (hk : Kept S w w') (hS : ∀ g, v.ownBlock = some g → ¬ S g) : Rd w' size v n xs :=
  h.frame (fun g hg hl => hk.block g hl (hS g hg))

/-! ### a slice that may be appended to -/

/-- v is nil, or begins at the head of a block of such elements that nobody has frozen, with room for as many as its capacity says -/
def Own (w : World) (e : TypeId) (size : Nat) (v : Value) (n : Nat) (xs : List Value) : Prop :=
  xs.length = n * size ∧ (∀ u ∈ xs, u.oneCell' = true) ∧
  ((v = .slice none 0 0 ∧ n = 0) ∨ ∃ g cap cur, v = .slice (some ⟨g, 0, none⟩) n cap ∧ w.heap[g]? = some (.cells cur e (0, 0)) ∧ n ≤ cap ∧ cap ≤ maxLen ∧ cap * size ≤ cur.size ∧ cur.toList.take (n * size) = xs)

theorem Own.nil (w : World) (e : TypeId) (size : Nat) : Own w e size (.slice none 0 0) 0 [] := ⟨by simp, by simp, .inl ⟨rfl, rfl⟩⟩

theorem Own.frame {w w' : World} {e : TypeId} {size : Nat} {v : Value} {n : Nat} {xs : List Value} (h : Own w e size v n xs) (hb : ∀ g, v.ownBlock = some g → g < w.heap.size → w'.heap[g]? = w.heap[g]?) : Own w' e size v n xs := by
  refine ⟨h.1, h.2.1, ?_⟩
  rcases h.2.2 with h1 | ⟨g, cap, cur, rfl, hg, hr⟩
  · exact .inl h1
  · exact .inr ⟨g, cap, cur, rfl, (hb g rfl (lt_of_heap hg)).trans hg, hr⟩
theorem Own.kept {S : Nat → Prop} {w w' : World} {e : TypeId} {size : Nat} {v : Value} {n : Nat} {xs : List Value} (h : Own w e size v n xs) (hk : Kept S w w') (hS : ∀ g, v.ownBlock = some g → ¬ S g) : Own w' e size v n xs :=
  h.frame (fun g hg hl => hk.block g hl (hS g hg))
theorem Own.lt {w : World} {e : TypeId} {size : Nat} {v : Value} {n : Nat} {xs : List Value} (h : Own w e size v n xs) : ∀ g, v.ownBlock = some g → g < w.heap.size := by
  intro g hg
  rcases h.2.2 with ⟨rfl, _⟩ | ⟨g', cap, cur, rfl, hh, _⟩
  · cases hg
  · simp [Value.ownBlock] at hg; subst hg; exact lt_of_heap hh
theorem Own.le {w : World} {e : TypeId} {size : Nat} {v : Value} {n : Nat} {xs : List Value} (h : Own w e size v n xs) : n ≤ maxLen := by
  rcases h.2.2 with ⟨_, rfl⟩ | ⟨g', cap, cur, rfl, hh, h1, h2, _⟩
  · exact Nat.zero_le _
  · omega

theorem Own.cells {w : World} {e : TypeId} {size : Nat} {g n cap : Nat} {xs : List Value} (h : Own w e size (.slice (some ⟨g, 0, none⟩) n cap) n xs) : ∀ j u, xs[j]? = some u → w.cell? ⟨g, j, none⟩ = some u := by
  intro j u hu
  rcases h.2.2 with ⟨h1, _⟩ | ⟨g', cap', cur, hv, hh, h1, h2, h3, h4⟩
  · cases h1
  · cases hv
    rw [cell_of_row w g j cur e (0, 0) hh]
    rw [← h4, List.getElem?_take] at hu
    split at hu
    · simpa using hu
    · cases hu
theorem Own.form {w : World} {e : TypeId} {size : Nat} {v : Value} {n : Nat} {xs : List Value} (h : Own w e size v n xs) (hn : 0 < n) : ∃ g cap, v = .slice (some ⟨g, 0, none⟩) n cap ∧ n ≤ cap ∧ cap ≤ maxLen := by
  rcases h.2.2 with ⟨_, h1⟩ | ⟨g, cap, cur, rfl, _, h1, h2, _⟩
  · omega
  · exact ⟨g, cap, rfl, h1, h2⟩
theorem Own.rd {w : World} {e : TypeId} {size : Nat} {v : Value} {n : Nat} {xs : List Value} (h : Own w e size v n xs) : Rd w size v n xs := by
  have h0 := h
  refine ⟨h.1, h.le, ?_⟩
  rcases h.2.2 with ⟨rfl, rfl⟩ | ⟨g, cap, cur, rfl, hh, h1, h2, h3, h4⟩
  · exact ⟨none, 0, rfl, Nat.le_refl _, Nat.zero_le _, fun _ => rfl, .inl rfl⟩
  · exact ⟨some ⟨g, 0, none⟩, cap, rfl, h1, h2, fun h => by simp at h, .inr ⟨g, 0, rfl, fun j u hu => by rw [Nat.zero_add]; exact h0.cells j u hu⟩⟩
/-- fewer of its elements, and room for no more than so many -/
theorem Own.cut {w : World} {e : TypeId} {size : Nat} {g n cap : Nat} {xs : List Value} (h : Own w e size (.slice (some ⟨g, 0, none⟩) n cap) n xs) {m c : Nat} (hm : m ≤ n) (hc : m ≤ c) (hc' : c ≤ cap) : Own w e size (.slice (some ⟨g, 0, none⟩) m c) m (xs.take (m * size)) := by
  have hl : m * size ≤ n * size := Nat.mul_le_mul_right _ hm
  have hl2 : c * size ≤ cap * size := Nat.mul_le_mul_right _ hc'
  refine ⟨by rw [List.length_take, h.1]; omega, fun u hu => h.2.1 u (List.mem_of_mem_take hu), ?_⟩
  rcases h.2.2 with ⟨h1, _⟩ | ⟨g', cap', cur, hv, hh, h1, h2, h3, h4⟩
  · cases h1
  · cases hv
    refine .inr ⟨g, c, cur, rfl, hh, hc, by omega, by omega, ?_⟩
    rw [← h4, List.take_take, Nat.min_eq_left hl]

/-! ### append -/
section
variable {P : Program} (w : World)

theorem own_fresh {w0 : World} {e : TypeId} {size n cap : Nat} {xs : List Value} {zs : Array Value} (hx : xs.length = n * size) (h1 : ∀ u ∈ xs, u.oneCell' = true) (hn : n ≤ cap) (hc : cap ≤ maxLen) (hz : zs.size = (cap - n) * size) :
    Own (w0.alloc (.cells (xs.toArray ++ zs) e)) e size (.slice (some ⟨w0.heap.size, 0, none⟩) n cap) n xs := by
  refine ⟨hx, h1, .inr ⟨w0.heap.size, cap, _, rfl, heap_alloc_new w0 _, hn, hc, ?_, ?_⟩⟩
  · simp only [Array.size_append, List.size_toArray, hz, hx, ← Nat.add_mul]
    rw [show n + (cap - n) = cap by omega]
    exact Nat.le_refl _
  · rw [Array.toList_append, ← hx]
    exact List.take_left

theorem run_append_Own (t ty : TypeId) (e : TypeId) (i : TypeInfo) (z : Value) (size bytes : Nat) (ht : P.underlying t = some (.slice e)) (hi : P.info? e = some i) (hz : i.zero = some z)
    (hsize : i.size = size) (hby : i.bytes = bytes) (hzs : z.cells.size = size)
    (v : Value) (n : Nat) (xs : List Value) (hown : Own w e size v n xs)
    (ad : Addr) (m c : Nat) (news : List Value) (hl : news.length = m * size) (hnews : ∀ j u, news[j]? = some u → w.cell? (ad.add j) = some u) (h1 : ∀ u ∈ news, u.oneCell' = true)
    (hm : 0 < m) (h63 : n + m ≤ maxLen) (hbytes : (n + m) * bytes ≤ 140737488355328) :
    ∃ g cap w', (Builtin.append_ #[t, t] ty #[v, .slice (some ad) m c]).run P w = .ok (.slice (some ⟨g, 0, none⟩) (n + m) cap) w' ∧
      Own w' e size (.slice (some ⟨g, 0, none⟩) (n + m) cap) (n + m) (xs ++ news) ∧ Kept (fun k => v.ownBlock = some k) w w' ∧ ((v.ownBlock = some g ∧ w'.heap.size = w.heap.size) ∨ (g = w.heap.size ∧ w'.heap.size = w.heap.size + 1)) := by
  subst hsize
  subst hby
  have hlen : (xs ++ news).length = (n + m) * i.size := by rw [List.length_append, hown.1, hl, Nat.add_mul]
  have hone : ∀ u ∈ xs ++ news, u.oneCell' = true := fun u hu => (List.mem_append.1 hu).elim (hown.2.1 u) (h1 u)
  have hsmall : n + m ≤ 9223372036854775807 := by simp only [maxLen] at h63; omega
  have grown : ∀ (old : Nat),
      Own (w.drew.alloc (.cells ((xs ++ news).toArray ++ Builtin.zeroCells z.cells (grownCap w (n + m) old e - (n + m))) e)) e i.size
        (.slice (some ⟨w.heap.size, 0, none⟩) (n + m) (grownCap w (n + m) old e)) (n + m) (xs ++ news) := by
    intro old
    refine own_fresh (w0 := w.drew) hlen hone (grownCap_ge w (n + m) old e) (grownCap_le_maxLen w (n + m) old e h63) ?_
    rw [size_zeroCells, hzs]
  rcases hown.2.2 with ⟨rfl, rfl⟩ | ⟨g, cap, cur, rfl, hg, hnc, hcm, hcs, htake⟩
  · have hx : xs = [] := List.eq_nil_of_length_eq_zero (by simpa using hown.1)
    subst hx
    have hr := run_append_nil (P := P) w t ty e i z ht hi hz ad m c news hl hnews (by omega) (by omega) (by have hb := hbytes; simp only [Nat.zero_add] at hb; omega)
    have hgr := grown 0
    simp only [Nat.zero_add, List.nil_append] at hgr ⊢
    exact ⟨_, _, _, hr, hgr, ⟨rfl, rfl, rfl, by simp, fun k hk _ => Below.heap_alloc w.drew _ k hk⟩, .inr ⟨rfl, by simp⟩⟩
  · by_cases hroom : n + m ≤ cap
    · have hle : (n + m) * i.size ≤ cap * i.size := Nat.mul_le_mul_right _ hroom
      have hfit : n * i.size + news.length ≤ cur.size := by rw [hl, ← Nat.add_mul]; omega
      have hr := run_append_room (P := P) w t ty e i ht hi g n cap cur hg ad m c news hl hnews h1 hroom hfit
      refine ⟨_, _, _, hr, ⟨hlen, hone, .inr ⟨g, cap, _, rfl, setRow_heap w g cur _ e _ hg, hroom, hcm, ?_, ?_⟩⟩, ⟨rfl, rfl, rfl, by simp [World.setRow], fun k _ hk => setRow_other w g k _ (fun e => hk (by simp [Value.ownBlock, e]))⟩, .inl ⟨rfl, by simp [World.setRow]⟩⟩
      · simp only [List.size_toArray, List.length_append, List.length_take, List.length_drop, Array.length_toList]
        omega
      · rw [htake, ← hlen]
        exact List.take_left
    · have holds : ∀ j u, xs[j]? = some u → w.cell? ((⟨g, 0, none⟩ : Addr).add j) = some u := fun j u hu => by rw [add_none, Nat.zero_add]; exact hown.cells j u hu
      have hr := run_append_grow (P := P) w t ty e i z ht hi hz ⟨g, 0, none⟩ n cap xs hown.1 holds ad m c news hl hnews (by omega) (by omega) (growslice_fits (by omega) hbytes)
      have hgr := grown cap
      rw [← List.append_toArray] at hgr
      exact ⟨_, _, _, hr, hgr, ⟨rfl, rfl, rfl, by simp, fun k hk _ => Below.heap_alloc w.drew _ k hk⟩, .inr ⟨rfl, by simp⟩⟩

/-- At the list of operations: for the walk. -/
theorem wpList_append_Own {ops : Array Oper} {rest : List Oper} {o : Oper} {a : Act} {Q : Exit → Act → World → Prop} (hgd : o.guard = none) (s x : Operand) (t : TypeId)
    (ho : o.op = .call { callee := .builtin .append, args := #[s, x], argTypes := #[t, t] })
    (e : TypeId) (i : TypeInfo) (z : Value) (size bytes : Nat) (ht : P.underlying t = some (.slice e)) (hi : P.info? e = some i) (hz : i.zero = some z)
    (hsize : i.size = size) (hby : i.bytes = bytes) (hzs : z.cells.size = size)
    (v : Value) (n : Nat) (xs : List Value) (hs : a.eval s = v) (hown : Own w e size v n xs)
    (ad : Addr) (m c : Nat) (news : List Value) (hx : a.eval x = .slice (some ad) m c) (hl : news.length = m * size) (hnews : ∀ j u, news[j]? = some u → w.cell? (ad.add j) = some u) (h1 : ∀ u ∈ news, u.oneCell' = true)
    (hm : 0 < m) (h63 : n + m ≤ maxLen) (hbytes : (n + m) * bytes ≤ 140737488355328)
    (h : ∀ g cap w', Own w' e size (.slice (some ⟨g, 0, none⟩) (n + m) cap) (n + m) (xs ++ news) → Kept (fun k => v.ownBlock = some k) w w' → ((v.ownBlock = some g ∧ w'.heap.size = w.heap.size) ∨ (g = w.heap.size ∧ w'.heap.size = w.heap.size + 1)) →
      wpList P ops Q rest (a.put o.dst (.slice (some ⟨g, 0, none⟩) (n + m) cap)) w') : wpList P ops Q (o :: rest) a w :=
  wpList_plain hgd fun _ hK => by
    obtain ⟨g, cap, w', hr, h2, h3, h4⟩ := run_append_Own (P := P) w t o.type e i z size bytes ht hi hz hsize hby hzs v n xs hown ad m c news hl hnews h1 hm h63 hbytes
    unfold Oper.wp execOp
    simp only [ho, resolve, invoke, builtin, Sem.run_bind, Sem.run_pure, Result.andThen_ok, List.map_toArray, List.map_cons, List.map_nil, hs, hx, hr]
    exact hK _ _ (h g cap w' h2 h3 h4)
theorem run_append_zero (t ty e : TypeId) (i : TypeInfo) (ht : P.underlying t = some (.slice e)) (hi : P.info? e = some i) (base ao : Option Addr) (n cap c : Nat) (hn : n ≤ cap) :
    (Builtin.append_ #[t, t] ty #[.slice base n cap, .slice ao 0 c]).run P w = .ok (.slice base n cap) w := by
  cases base <;> cases ao <;> simp [Builtin.append_, run_underlying ht, sizeOf, typeInfo, hi, Builtin.lenOf, Builtin.firstCells, loadCells, loadCellsFrom, storeCells, hn]

/-- what is appended is a slice that is read: it may be nil, or hold nothing -/
theorem run_append_Rd (t ty : TypeId) (e : TypeId) (i : TypeInfo) (z : Value) (size bytes : Nat) (ht : P.underlying t = some (.slice e)) (hi : P.info? e = some i) (hz : i.zero = some z)
    (hsize : i.size = size) (hby : i.bytes = bytes) (hzs : z.cells.size = size)
    (v : Value) (n : Nat) (xs : List Value) (hown : Own w e size v n xs) (x : Value) (m : Nat) (news : List Value) (hx : Rd w size x m news) (h1 : ∀ u ∈ news, u.oneCell' = true)
    (h63 : n + m ≤ maxLen) (hbytes : (n + m) * bytes ≤ 140737488355328) :
    ∃ v' w', (Builtin.append_ #[t, t] ty #[v, x]).run P w = .ok v' w' ∧
      Own w' e size v' (n + m) (xs ++ news) ∧ Kept (fun k => v.ownBlock = some k) w w' ∧ (v'.ownBlock = v.ownBlock ∨ (v'.ownBlock = some w.heap.size ∧ w'.heap.size = w.heap.size + 1)) ∧ (m = 0 → v' = v) ∧ (0 < m → v'.ownBlock ≠ none) := by
  obtain ⟨hl, _, ao, c, rfl, _, _, _, hcell⟩ := hx
  by_cases hm : m = 0
  · subst hm
    have hn : news = [] := List.eq_nil_of_length_eq_zero (by simpa using hl)
    subst hn
    rw [Nat.add_zero, List.append_nil]
    rcases hown.2.2 with ⟨rfl, rfl⟩ | ⟨g, cap, cur, rfl, hg, hnc, _⟩
    · exact ⟨_, w, run_append_zero w t ty e i ht hi none ao 0 0 c (Nat.le_refl _), hown, Kept.refl _ _, .inl rfl, fun _ => rfl, fun h => absurd h (by omega)⟩
    · exact ⟨_, w, run_append_zero w t ty e i ht hi _ ao n cap c hnc, hown, Kept.refl _ _, .inl rfl, fun _ => rfl, fun h => absurd h (by omega)⟩
  · rcases hcell with h0 | ⟨g0, o0, rfl, hc⟩
    · exact absurd h0 hm
    · obtain ⟨g, cap, w', hr, h2, h3, h4⟩ := run_append_Own w t ty e i z size bytes ht hi hz hsize hby hzs v n xs hown ⟨g0, o0, none⟩ m c news hl (fun j u hu => by rw [add_none]; exact hc j u hu) h1 (by omega) h63 hbytes
      refine ⟨_, w', hr, h2, h3, ?_, fun h => absurd h hm, fun _ => by simp [Value.ownBlock]⟩
      rcases h4 with ⟨h4, _⟩ | ⟨h4, h5⟩
      · exact .inl (by rw [h4]; rfl)
      · exact .inr ⟨by rw [h4]; rfl, h5⟩

theorem wpList_append_Rd {ops : Array Oper} {rest : List Oper} {o : Oper} {a : Act} {Q : Exit → Act → World → Prop} (hgd : o.guard = none) (s x : Operand) (t : TypeId)
    (ho : o.op = .call { callee := .builtin .append, args := #[s, x], argTypes := #[t, t] })
    (e : TypeId) (i : TypeInfo) (z : Value) (size bytes : Nat) (ht : P.underlying t = some (.slice e)) (hi : P.info? e = some i) (hz : i.zero = some z)
    (hsize : i.size = size) (hby : i.bytes = bytes) (hzs : z.cells.size = size)
    (v : Value) (n : Nat) (xs : List Value) (hs : a.eval s = v) (hown : Own w e size v n xs) (xv : Value) (m : Nat) (news : List Value) (hx : a.eval x = xv) (hrd : Rd w size xv m news) (h1 : ∀ u ∈ news, u.oneCell' = true)
    (h63 : n + m ≤ maxLen) (hbytes : (n + m) * bytes ≤ 140737488355328)
    (h : ∀ v' w', Own w' e size v' (n + m) (xs ++ news) → Kept (fun k => v.ownBlock = some k) w w' → (v'.ownBlock = v.ownBlock ∨ (v'.ownBlock = some w.heap.size ∧ w'.heap.size = w.heap.size + 1)) → (m = 0 → v' = v) → (0 < m → v'.ownBlock ≠ none) →
      wpList P ops Q rest (a.put o.dst v') w') : wpList P ops Q (o :: rest) a w :=
  wpList_plain hgd fun _ hK => by
    obtain ⟨v', w', hr, h2, h3, h4, h5, h6⟩ := run_append_Rd (P := P) w t o.type e i z size bytes ht hi hz hsize hby hzs v n xs hown xv m news hrd h1 h63 hbytes
    unfold Oper.wp execOp
    simp only [ho, resolve, invoke, builtin, Sem.run_bind, Sem.run_pure, Result.andThen_ok, List.map_toArray, List.map_cons, List.map_nil, hs, hx, hr]
    exact hK _ _ (h v' w' h2 h3 h4 h5 h6)
end

/-! ### blocks that are known whole -/
theorem cells1 {w : World} {b : Nat} {t : TypeId} {x0 : Value} (h : w.heap[b]? = some (.cells #[x0] t (0, 0))) :
    w.cell? ⟨b, 0, none⟩ = some x0 ∧ (∀ j, w.frozen? ⟨b, j, none⟩ = false) := by
  refine ⟨?_, fun j => ?_⟩
  all_goals first | (rw [cell_of_row w b _ _ _ _ h]; rfl) | simp [World.frozen?, h]
theorem cells2 {w : World} {b : Nat} {t : TypeId} {x0 x1 : Value} (h : w.heap[b]? = some (.cells #[x0, x1] t (0, 0))) :
    w.cell? ⟨b, 0, none⟩ = some x0 ∧ w.cell? ⟨b, 1, none⟩ = some x1 ∧ (∀ j, w.frozen? ⟨b, j, none⟩ = false) := by
  refine ⟨?_, ?_, fun j => ?_⟩
  all_goals first | (rw [cell_of_row w b _ _ _ _ h]; rfl) | simp [World.frozen?, h]
theorem cells3 {w : World} {b : Nat} {t : TypeId} {x0 x1 x2 : Value} (h : w.heap[b]? = some (.cells #[x0, x1, x2] t (0, 0))) :
    w.cell? ⟨b, 0, none⟩ = some x0 ∧ w.cell? ⟨b, 1, none⟩ = some x1 ∧ w.cell? ⟨b, 2, none⟩ = some x2 ∧ (∀ j, w.frozen? ⟨b, j, none⟩ = false) := by
  refine ⟨?_, ?_, ?_, fun j => ?_⟩
  all_goals first | (rw [cell_of_row w b _ _ _ _ h]; rfl) | simp [World.frozen?, h]
theorem cells4 {w : World} {b : Nat} {t : TypeId} {x0 x1 x2 x3 : Value} (h : w.heap[b]? = some (.cells #[x0, x1, x2, x3] t (0, 0))) :
    w.cell? ⟨b, 0, none⟩ = some x0 ∧ w.cell? ⟨b, 1, none⟩ = some x1 ∧ w.cell? ⟨b, 2, none⟩ = some x2 ∧ w.cell? ⟨b, 3, none⟩ = some x3 ∧ (∀ j, w.frozen? ⟨b, j, none⟩ = false) := by
  refine ⟨?_, ?_, ?_, ?_, fun j => ?_⟩
  all_goals first | (rw [cell_of_row w b _ _ _ _ h]; rfl) | simp [World.frozen?, h]
theorem cells5 {w : World} {b : Nat} {t : TypeId} {x0 x1 x2 x3 x4 : Value} (h : w.heap[b]? = some (.cells #[x0, x1, x2, x3, x4] t (0, 0))) :
    w.cell? ⟨b, 0, none⟩ = some x0 ∧ w.cell? ⟨b, 1, none⟩ = some x1 ∧ w.cell? ⟨b, 2, none⟩ = some x2 ∧ w.cell? ⟨b, 3, none⟩ = some x3 ∧ w.cell? ⟨b, 4, none⟩ = some x4 ∧ (∀ j, w.frozen? ⟨b, j, none⟩ = false) := by
  refine ⟨?_, ?_, ?_, ?_, ?_, fun j => ?_⟩
  all_goals first | (rw [cell_of_row w b _ _ _ _ h]; rfl) | simp [World.frozen?, h]
theorem cells6 {w : World} {b : Nat} {t : TypeId} {x0 x1 x2 x3 x4 x5 : Value} (h : w.heap[b]? = some (.cells #[x0, x1, x2, x3, x4, x5] t (0, 0))) :
    w.cell? ⟨b, 0, none⟩ = some x0 ∧ w.cell? ⟨b, 1, none⟩ = some x1 ∧ w.cell? ⟨b, 2, none⟩ = some x2 ∧ w.cell? ⟨b, 3, none⟩ = some x3 ∧ w.cell? ⟨b, 4, none⟩ = some x4 ∧ w.cell? ⟨b, 5, none⟩ = some x5 ∧ (∀ j, w.frozen? ⟨b, j, none⟩ = false) := by
  refine ⟨?_, ?_, ?_, ?_, ?_, ?_, fun j => ?_⟩
  all_goals first | (rw [cell_of_row w b _ _ _ _ h]; rfl) | simp [World.frozen?, h]
theorem cells7 {w : World} {b : Nat} {t : TypeId} {x0 x1 x2 x3 x4 x5 x6 : Value} (h : w.heap[b]? = some (.cells #[x0, x1, x2, x3, x4, x5, x6] t (0, 0))) :
    w.cell? ⟨b, 0, none⟩ = some x0 ∧ w.cell? ⟨b, 1, none⟩ = some x1 ∧ w.cell? ⟨b, 2, none⟩ = some x2 ∧ w.cell? ⟨b, 3, none⟩ = some x3 ∧ w.cell? ⟨b, 4, none⟩ = some x4 ∧ w.cell? ⟨b, 5, none⟩ = some x5 ∧ w.cell? ⟨b, 6, none⟩ = some x6 ∧ (∀ j, w.frozen? ⟨b, j, none⟩ = false) := by
  refine ⟨?_, ?_, ?_, ?_, ?_, ?_, ?_, fun j => ?_⟩
  all_goals first | (rw [cell_of_row w b _ _ _ _ h]; rfl) | simp [World.frozen?, h]
theorem cells8 {w : World} {b : Nat} {t : TypeId} {x0 x1 x2 x3 x4 x5 x6 x7 : Value} (h : w.heap[b]? = some (.cells #[x0, x1, x2, x3, x4, x5, x6, x7] t (0, 0))) :
    w.cell? ⟨b, 0, none⟩ = some x0 ∧ w.cell? ⟨b, 1, none⟩ = some x1 ∧ w.cell? ⟨b, 2, none⟩ = some x2 ∧ w.cell? ⟨b, 3, none⟩ = some x3 ∧ w.cell? ⟨b, 4, none⟩ = some x4 ∧ w.cell? ⟨b, 5, none⟩ = some x5 ∧ w.cell? ⟨b, 6, none⟩ = some x6 ∧ w.cell? ⟨b, 7, none⟩ = some x7 ∧ (∀ j, w.frozen? ⟨b, j, none⟩ = false) := by
  refine ⟨?_, ?_, ?_, ?_, ?_, ?_, ?_, ?_, fun j => ?_⟩
  all_goals first | (rw [cell_of_row w b _ _ _ _ h]; rfl) | simp [World.frozen?, h]
/-- block g is a row of so many cells, not frozen, that begins with xs -/
def RowV (w : World) (g : Nat) (e : TypeId) (z : Nat) (xs : List Value) : Prop := ∃ cur, w.heap[g]? = some (.cells cur e (0, 0)) ∧ cur.size = z ∧ cur.toList.take xs.length = xs
theorem RowV.cell {w : World} {g : Nat} {e : TypeId} {z : Nat} {xs : List Value} (h : RowV w g e z xs) {j : Nat} {u : Value} (hu : xs[j]? = some u) : w.cell? ⟨g, j, none⟩ = some u := by
  obtain ⟨cur, h1, _, h2⟩ := h
  rw [cell_of_row w g j cur e (0, 0) h1]
  rw [← h2, List.getElem?_take] at hu
  split at hu
  · simpa using hu
  · cases hu
theorem RowV.frozen {w : World} {g : Nat} {e : TypeId} {z : Nat} {xs : List Value} (h : RowV w g e z xs) (j : Nat) : w.frozen? ⟨g, j, none⟩ = false := by
  obtain ⟨cur, h1, _⟩ := h
  simp [World.frozen?, h1]
theorem RowV.set {w : World} {g : Nat} {e : TypeId} {z : Nat} {xs : List Value} (h : RowV w g e z xs) (j : Nat) (u : Value) : RowV (w.setCell ⟨g, j, none⟩ u) g e z (xs.set j u) := by
  obtain ⟨cur, h1, h2, h3⟩ := h
  have hlt := lt_of_heap h1
  have hv : w.heap[g] = .cells cur e (0, 0) := (Array.getElem?_eq_some_iff.1 h1).2
  refine ⟨cur.setIfInBounds j u, ?_, by simpa using h2, ?_⟩
  · simp only [World.setCell, Array.getElem?_modify, if_true, h1, Option.map_some]
    simp
  · rw [Array.toList_setIfInBounds, List.length_set, List.take_set, h3]
theorem RowV.frame {w w' : World} {g : Nat} {e : TypeId} {z : Nat} {xs : List Value} (h : RowV w g e z xs) (hb : w'.heap[g]? = w.heap[g]?) : RowV w' g e z xs := by
  obtain ⟨cur, h1, h2⟩ := h
  exact ⟨cur, hb.trans h1, h2⟩
theorem RowV.drew {w : World} {g : Nat} {e : TypeId} {z : Nat} {xs : List Value} (h : RowV w g e z xs) : RowV w.drew g e z xs := h
theorem Own.drew {w : World} {e : TypeId} {size : Nat} {v : Value} {n : Nat} {xs : List Value} (h : Own w e size v n xs) : Own w.drew e size v n xs := h
theorem Rd.drew {w : World} {size : Nat} {v : Value} {n : Nat} {xs : List Value} (h : Rd w size v n xs) : Rd w.drew size v n xs := h
theorem Own.row {w : World} {e : TypeId} {size g n cap : Nat} {xs : List Value} (h : Own w e size (.slice (some ⟨g, 0, none⟩) n cap) n xs) : ∃ z, cap * size ≤ z ∧ RowV w g e z xs := by
  have hl := h.1
  rcases h.2.2 with ⟨h1, _⟩ | ⟨g', cap', cur, hv, hh, h1, h2, h3, h4⟩
  · cases h1
  · cases hv
    exact ⟨cur.size, h3, cur, hh, rfl, by rw [hl, h4]⟩
theorem RowV.own {w : World} {e : TypeId} {size g n cap z : Nat} {xs : List Value} (h : RowV w g e z xs) (hl : xs.length = n * size) (h1 : ∀ u ∈ xs, u.oneCell' = true) (hn : n ≤ cap) (hc : cap ≤ maxLen) (hz : cap * size ≤ z) : Own w e size (.slice (some ⟨g, 0, none⟩) n cap) n xs := by
  obtain ⟨cur, h2, h3, h4⟩ := h
  exact ⟨hl, h1, .inr ⟨g, cap, cur, rfl, h2, hn, hc, by omega, by rw [← hl]; exact h4⟩⟩
theorem heap_setCell_at {w : World} {b j : Nat} {cs : Array Value} {t : TypeId} {fr : Nat × Nat} (h : w.heap[b]? = some (.cells cs t fr)) (v : Value) : (w.setCell ⟨b, j, none⟩ v).heap[b]? = some (.cells (cs.setIfInBounds j v) t fr) := by
  have hlt := lt_of_heap h
  have hv : w.heap[b] = .cells cs t fr := (Array.getElem?_eq_some_iff.1 h).2
  simp only [World.setCell, Array.getElem?_modify, if_true, h, Option.map_some]
  simp
theorem heap_setCell_ne {w : World} {b : Nat} {p : Addr} (v : Value) (h : b ≠ p.block) : (w.setCell p v).heap[b]? = w.heap[b]? := Below.heap_setCell _ _ _ _ h
theorem size_setCell (w : World) (p : Addr) (u : Value) : (w.setCell p u).heap.size = w.heap.size := by simp [World.setCell]
theorem news_of_heap {w : World} {B : Nat} {cs : Array Value} {t : TypeId} {fr : Nat × Nat} (hb : w.heap[B]? = some (.cells cs t fr)) : ∀ (j : Nat) (u : Value), cs.toList[j]? = some u → w.cell? ((⟨B, 0, none⟩ : Addr).add j) = some u := World.news_of_block hb
theorem heap_alloc_lt {w : World} {b : Nat} {o x : Obj} (h : w.heap[b]? = some x) : (w.alloc o).heap[b]? = some x := by rw [Below.heap_alloc _ _ _ (lt_of_heap h)]; exact h
theorem heap_alloc_self (w : World) (o : Obj) : (w.alloc o).heap[w.heap.size]? = some o := by show (w.heap.push o)[w.heap.size]? = _; simp
end Go.Proofs.Ytjijemeabfiipaa
