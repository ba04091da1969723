/- Of no program: slices of elements as lists of cells; a slice argument as it reads. -/
import Derived.Test.YtjijemeabfiipaaMem
import Derived.Deep.Slices
import Derived.Deep.Strs
import Derived.SizedLaws
namespace Go.Proofs.Ytjijemeabfiipaa
open Go.ChangeShapes Go.WideShapes Go.ChangeAt Go.RowKit Go.Deep

/-! ### lists of elements as lists of cells -/
theorem flat_len {α : Type} {f : α → List Value} {size : Nat} (hf : ∀ x, (f x).length = size) (l : List α) : (l.flatMap f).length = l.length * size := by
  induction l with
  | nil => simp
  | cons x l ih => rw [List.flatMap_cons, List.length_append, hf, ih, List.length_cons, Nat.succ_mul]; omega
theorem flat_get {α : Type} {f : α → List Value} {size : Nat} (hf : ∀ x, (f x).length = size) : ∀ (l : List α) (i : Nat) (x : α), l[i]? = some x → ∀ (j : Nat) (u : Value), (f x)[j]? = some u → (l.flatMap f)[i * size + j]? = some u
  | [], i, x, h, _, _, _ => by simp at h
  | y :: l, i, x, h, j, u, hu => by
    rw [List.flatMap_cons]
    have hj : j < size := by rw [← hf x]; exact (List.getElem?_eq_some_iff.1 hu).1
    cases i with
    | zero =>
      simp only [List.getElem?_cons_zero, Option.some.injEq] at h
      subst h
      rw [Nat.zero_mul, Nat.zero_add, List.getElem?_append_left (by rw [hf]; exact hj)]
      exact hu
    | succ i =>
      rw [List.getElem?_append_right (by rw [hf, Nat.succ_mul]; omega), hf, Nat.succ_mul, show i * size + size + j - size = i * size + j by omega]
      exact flat_get hf l i x (by simpa using h) j u hu
theorem flat_take {α : Type} {f : α → List Value} {size : Nat} (hf : ∀ x, (f x).length = size) : ∀ (l : List α) (n : Nat), (l.flatMap f).take (n * size) = (l.take n).flatMap f
  | [], n => by simp
  | y :: l, 0 => by simp
  | y :: l, n + 1 => by
    rw [List.flatMap_cons, List.take_succ_cons, List.flatMap_cons, List.take_append, hf, Nat.succ_mul, List.take_of_length_le (by rw [hf]; omega), show n * size + size - size = n * size by omega, flat_take hf l n]
theorem flat_drop {α : Type} {f : α → List Value} {size : Nat} (hf : ∀ x, (f x).length = size) : ∀ (l : List α) (n : Nat), (l.flatMap f).drop (n * size) = (l.drop n).flatMap f
  | [], n => by simp
  | y :: l, 0 => by simp
  | y :: l, n + 1 => by
    rw [List.flatMap_cons, List.drop_succ_cons, List.drop_append, hf, Nat.succ_mul, List.drop_of_length_le (by rw [hf]; omega), show n * size + size - size = n * size by omega, flat_drop hf l n, List.nil_append]


/-! ### a slice that is read as data -/
section
variable {H : Type} {enc : TypeId × Value → H} {P : Program} {w : World} {base : Nat} {spare : Nat → Bool} {held : Bool}

theorem weights_fields {ts : List TypeId} {ds : List (DataW H)} {B : Nat} (h : (DataW.weightsEach P ts ds).all (· ≤ B) = true) : ∀ (j : Nat) t d, ts[j]? = some t → ds[j]? = some d → (d.weights P t).all (· ≤ B) = true := by
  intro j t d ht hd
  refine List.all_eq_true.2 fun n hn => List.all_eq_true.1 h n (DataW.weights_mem_each ht hd n hn)
theorem weightsAll_mem {e : TypeId} : ∀ {ds : List (DataW H)} {i : Nat} {d : DataW H}, ds[i]? = some d → ∀ n ∈ d.weights P e, n ∈ DataW.weightsAll P e ds
  | d0 :: ds, 0, d, hd, n, hn => by
    simp only [List.getElem?_cons_zero, Option.some.injEq] at hd
    subst hd
    simp only [DataW.weightsAll, List.mem_append]
    exact .inl hn
  | d0 :: ds, i + 1, d, hd, n, hn => by
    simp only [List.getElem?_cons_succ] at hd
    simp only [DataW.weightsAll, List.mem_append]
    exact .inr (weightsAll_mem hd n hn)
  | [], _, _, hd, _, _ => by simp at hd

/-- a slice of elements, each of which is f's cells -/
theorem open_Rd {α : Type} [Inhabited α] {f : α → List Value} {G : α → DataW H → Prop} {size : Nat} {t e : TypeId} (ht : P.underlying t = some (.slice e)) (hsz : P.cellsOf e = size) (hpos : 0 < size) (hf : ∀ a, (f a).length = size)
    (each : ∀ fuel cs d p, DataW.trod enc P w base spare held fuel e cs = some (d, p) → ∃ a : α, cs = f a ∧ G a d) (hsp : ∀ b, spare b = true)
    {fuel : Nat} {cs : List Value} {x : DataW H × List MemPlace} (h : DataW.trod enc P w base spare held fuel t cs = some x) :
    ∃ (v : Value) (l : List α), cs = [v] ∧ Rd w size v l.length (l.flatMap f) ∧
      ((x.1 = .nil ∧ l = []) ∨ ∃ ds sp, x.1 = .slice ds sp ∧ ds.length = l.length ∧ ∀ (i : Nat) (a : α), l[i]? = some a → ∃ d, ds[i]? = some d ∧ G a d) := by
  rcases open_slice ht h with ⟨rfl, rfl⟩ | ⟨a, len, cap, m, n, D, Pl, rfl, hb, hl, hm, hmm, rfl, hx⟩
  · exact ⟨_, [], rfl, Rd.nil _ _, .inl ⟨rfl, rfl⟩⟩
  · rw [hsp, if_pos rfl] at hmm
    subst hmm
    rw [hsz] at hx
    obtain ⟨A, hA⟩ := choose_lt (α := α) (p := fun i b => w.cells? base (a.add (i * size)) size = some (f b) ∧ G b (D i)) (fun i (hi : i < len) => by
      obtain ⟨cs', h1, h2⟩ := hx i (by omega)
      obtain ⟨b, rfl, hg⟩ := each _ _ _ _ h2
      exact ⟨b, h1, hg⟩)
    have hlen : ((List.range len).map A).length = len := by simp
    have hget : ∀ i, i < len → ((List.range len).map A)[i]? = some (A i) := fun i hi => by simp [List.getElem?_map, List.getElem?_range hi]
    refine ⟨_, (List.range len).map A, rfl, ⟨by rw [flat_len hf], by rw [hlen]; omega, some a, m, by rw [hlen], by rw [hlen]; omega, hm, fun h => by simp at h, ?_⟩, .inr ⟨_, _, rfl, by simp, fun i b hi => ?_⟩⟩
    · rw [hlen]
      by_cases h0 : len = 0
      · exact .inl h0
      · right
        obtain ⟨_, hl0, hc0⟩ := World.cells?_some (hA 0 (by omega)).1
        have h00 := hc0 0 hpos
        have hsome : ∃ u, (f (A 0))[0]? = some u := ⟨(f (A 0))[0]'(by rw [hf]; omega), List.getElem?_eq_getElem _⟩
        obtain ⟨u0, hu0⟩ := hsome
        rw [hu0] at h00
        obtain ⟨g, o, spot⟩ := a
        have hspot : spot = none := by simpa [Addr.add] using World.cell?_spot h00
        subst hspot
        refine ⟨g, o, rfl, fun j u hu => ?_⟩
        have hj : j < len * size := by
          have := (List.getElem?_eq_some_iff.1 hu).1
          rw [flat_len hf, hlen] at this
          exact this
        have hi : j / size < len := Nat.div_lt_of_lt_mul (by rw [Nat.mul_comm]; exact hj)
        have hr : j % size < size := Nat.mod_lt _ hpos
        have hjj : j / size * size + j % size = j := by rw [Nat.mul_comm]; exact Nat.div_add_mod j size
        obtain ⟨_, _, hc⟩ := World.cells?_some (hA _ hi).1
        have hu' : ∃ u', (f (A (j / size)))[j % size]? = some u' := ⟨(f (A (j / size)))[j % size]'(by rw [hf]; exact hr), List.getElem?_eq_getElem _⟩
        obtain ⟨u', hu'⟩ := hu'
        have := flat_get hf _ _ _ (hget _ hi) _ _ hu'
        rw [hjj, hu] at this
        obtain rfl := Option.some.inj this
        have h2 := hc _ hr
        rw [hu'] at h2
        rw [add_none, add_none, Nat.add_assoc, hjj] at h2
        exact h2
    · have hi' : i < len := by
        have := (List.getElem?_eq_some_iff.1 hi).1
        rw [hlen] at this
        exact this
      rw [hget i hi'] at hi
      obtain rfl := Option.some.inj hi
      exact ⟨D i, by simp [List.getElem?_map, List.getElem?_range hi'], (hA i hi').2⟩
end
end Go.Proofs.Ytjijemeabfiipaa
