/- Joined texts: A law's arguments of these kinds, opened: rows of numbers; the table of modes. Of no program: what reads as plain data (bools, integers, strings, structs and arrays of these) holds just the cells that the data say. Of no one law: what a law's row asks behind the call, from three facts: it returned true, nothing that was there has turned, the arguments' types can be read. Contracts of the reference package of layer 8: Fits, Covers. No conditions. Contract of the reference's Covers (layer 8). No conditions. -/
import Derived.Test.YtgljdkjepdknnaaGreatDoorMT5
import Derived.Test.YtgljdkjepdknnaaGreatDoorMT1
import Derived.Test.YtgljdkjepdknnaaGreatDoorMT7
import Derived.OpenShut
import Derived.Test.YtgljdkjepdknnaaGreatDoorRows
import Derived.JoinedCond
import Derived.Deep.DeepHandedRow
import Derived.Deep.CondSized
import Derived.Test.YtgljdkjepdknnaaGreatDoorMT3
set_option maxHeartbeats 64000000
namespace Go.Proofs.YtgljdkjepdknnaaGreatDoor
open Go.ChangeShapes Go.WideShapes Go.ChangeAt Go.RowKit
section
variable {H : Type} {enc : TypeId × Value → H} {w : World} {base : Nat} {spare : Nat → Bool} {held : Bool}
end
theorem envD_of {W : World} (h : Tb W) : EnvD (cD W) := by
  have h0 := h 0 _ rfl
  unfold World.cell? at h0
  split at h0
  · rename_i c t fr hb
    refine ⟨c, t, fr, hb, fun i x hx => ?_⟩
    have h1 := h i x hx
    rw [cell_of_row W _ i c t fr hb] at h1
    exact h1
  · cases h0
def cQ (P : Program) (u : TypeId → DataW Unit → Option (List Value)) : Nat → List (Nat × TypeId) → List (DataW Unit) → Option (List Value)
  | _, [], [] => some []
  | off, x :: fs, d :: ds => if x.1 = off then (u x.2 d).bind fun vs => if vs.length = P.cellsOf x.2 then (cQ P u (off + vs.length) fs ds).map (vs ++ ·) else none else none
  | _, _, _ => none
def gP (P : Program) : Nat → TypeId → DataW Unit → Option (List Value)
  | 0, _, _ => none
  | n + 1, t, d => match P.underlying t, d with
    | some .bool, .lit (.bool b) => some [.bool b]
    | some (.int k), .lit (.int _ z) => some [.int k z]
    | some .string, .lit (.string l) => some [.string ⟨l.toArray⟩]
    | some (.struct fs), .agg ps => cQ P (gP P n) 0 (fs.toList.map fun f => (f.offset, f.type)) ps
    | some (.array m e), .agg ps => cQ P (gP P n) 0 ((List.range m).map fun i => (i * P.cellsOf e, e)) ps
    | _, _ => none
theorem gt {P : Program} {u : TypeId → DataW Unit → Option (List Value)} {cs : List Value} {T : TypeId → List Value → Option (DataW Unit × List MemPlace)}
    (hu : ∀ t d vs c p, u t d = some vs → T t c = some (d, p) → c = vs) :
    ∀ (fs : List (Nat × TypeId)) (off : Nat) (xs : List (DataW Unit × List MemPlace)) (vs : List Value), cQ P u off fs (xs.map (·.1)) = some vs →
      (∀ (i : Nat) (x : Nat × TypeId), fs[i]? = some x → T x.2 ((cs.drop x.1).take (P.cellsOf x.2)) = xs[i]?) → (cs.drop off).take vs.length = vs
  | [], off, [], vs, h, _ => by simp [cQ] at h; subst h; simp
  | [], _, _ :: _, _, h, _ => by simp [cQ] at h
  | _ :: _, _, [], _, h, _ => by simp [cQ] at h
  | (o, t) :: fs, off, y :: xs, vs, h, hT => by
    simp only [List.map_cons, cQ] at h
    split at h
    · rename_i ho
      obtain ⟨v1, h1, h2⟩ := Option.bind_eq_some_iff.1 h
      split at h2
      · rename_i hl
        obtain ⟨v2, h3, rfl⟩ := Option.map_eq_some_iff.1 h2
        have e1 := hT 0 (o, t) rfl
        have e2 := hu t y.1 v1 _ y.2 h1 e1
        dsimp only at ho hl e2
        subst ho
        rw [← hl] at e2
        have ih := gt hu fs (o + v1.length) xs v2 h3 (fun i x hi => hT (i + 1) x hi)
        rw [List.length_append, List.take_add, e2, List.drop_drop, ih]
      · cases h2
    · cases h
theorem no {P : Program} {w : World} {enc : TypeId × Value → Unit} {base : Nat} {sp : Nat → Bool} {held : Bool} :
    ∀ (n : Nat) (fuel : Nat) (t : TypeId) (d : DataW Unit) (vs cs : List Value) (p : List MemPlace), gP P n t d = some vs → vs.length = P.cellsOf t → DataW.trod enc P w base sp held fuel t cs = some (d, p) → cs = vs
  | 0, _, _, _, _, _, _, h, _, _ => by simp [gP] at h
  | n + 1, fuel, t, d, vs, cs, p, h, hlen, hd => by
    have hin : ∀ fuel t d vs c p, (gP P n t d).bind (fun vs => if vs.length = P.cellsOf t then some vs else none) = some vs → DataW.trod enc P w base sp held fuel t c = some (d, p) → c = vs := by
      intro fuel t d vs c p hx hy
      obtain ⟨v, h1, h2⟩ := Option.bind_eq_some_iff.1 hx
      split at h2
      · rename_i hl
        obtain rfl := Option.some.inj h2
        exact no n fuel t d v c p h1 hl hy
      · cases h2
    have hseq : ∀ (fs : List (Nat × TypeId)) (off : Nat) (ds : List (DataW Unit)) (vs : List Value), cQ P (gP P n) off fs ds = some vs →
        cQ P (fun t d => (gP P n t d).bind (fun vs => if vs.length = P.cellsOf t then some vs else none)) off fs ds = some vs := by
      intro fs
      induction fs with
      | nil => intro off ds vs h; cases ds with
        | nil => exact h
        | cons d ds => simp [cQ] at h
      | cons x fs ih =>
        intro off ds vs h
        cases ds with
        | nil => simp [cQ] at h
        | cons d ds =>
          simp only [cQ] at h ⊢
          split at h
          · rename_i ho
            rw [if_pos ho]
            obtain ⟨v1, h1, h2⟩ := Option.bind_eq_some_iff.1 h
            split at h2
            · rename_i hl
              obtain ⟨v2, h3, rfl⟩ := Option.map_eq_some_iff.1 h2
              simp [h1, hl]
              rw [← hl]
              exact ih _ _ _ h3
            · cases h2
          · cases h
    unfold gP at h
    split at h
    · rename_i hu
      obtain ⟨b, rfl, hx⟩ := DataW.trod_bool hu hd
      cases hx; cases h; rfl
    · rename_i hu
      obtain ⟨z, rfl, hx, _⟩ := DataW.trod_int hu hd
      cases hx; cases h; rfl
    · rename_i l hu
      obtain ⟨s, rfl, hx, _⟩ := DataW.trod_string hu hd
      simp only [Prod.mk.injEq, DataW.lit.injEq, Lit.string.injEq] at hx
      cases h
      rw [hx.1]
    · rename_i fs ps hu
      obtain ⟨xs, m, rfl, hx, hl, hxl, hT⟩ := DataW.trod_struct hu hd
      simp only [Prod.mk.injEq, DataW.agg.injEq] at hx
      obtain ⟨rfl, _⟩ := hx
      have := gt (P := P) (cs := cs) (T := fun t c => DataW.trod enc P w base sp held m t c) (fun t d vs c p a b => hin m t d vs c p a b) _ 0 xs vs (hseq _ _ _ _ h) (by
        intro i x hi
        simp only [List.getElem?_map, Option.map_eq_some_iff] at hi
        obtain ⟨f, hf, rfl⟩ := hi
        exact hT i f (by simpa using hf))
      rw [List.drop_zero, hlen, ← hl, List.take_length] at this
      exact this
    · rename_i m' e ps hu
      obtain ⟨xs, m, rfl, hx, hl, hxl, hT⟩ := DataW.trod_array hu hd
      simp only [Prod.mk.injEq, DataW.agg.injEq] at hx
      obtain ⟨rfl, _⟩ := hx
      have := gt (P := P) (cs := cs) (T := fun t c => DataW.trod enc P w base sp held m t c) (fun t d vs c p a b => hin m t d vs c p a b) _ 0 xs vs (hseq _ _ _ _ h) (by
        intro i x hi
        simp only [List.getElem?_map, Option.map_eq_some_iff] at hi
        obtain ⟨j, hj, rfl⟩ := hi
        rw [List.getElem?_eq_some_iff] at hj
        obtain ⟨hj1, hj2⟩ := hj
        simp at hj1 hj2
        subst hj2
        exact hT _ hj1)
      rw [List.drop_zero, hlen, ← hl, List.take_length] at this
      exact this
    · cases h
theorem om {P : Program} {W : World} {name : String} {d : DataW Unit} {rest : List (String × DataW Unit)} {g : Nat} {t : TypeId} {vs : List Value} (n : Nat)
    (hg : P.globalNamed name = some g) (hty : (P.globals[g]?).map (·.type) = some t) (hun : gP P n t d = some vs) (hlen : vs.length = P.cellsOf t)
    (h : laidMet P ((name, d) :: rest) W) : ∀ i x, vs[i]? = some x → W.cell? ⟨g, i, none⟩ = some x := by
  obtain ⟨ps, ⟨g', t', cs, fuel, p, q, hg', ht', hvar, hd, _, _⟩, _⟩ := h
  obtain rfl := Option.some.inj (hg.symm.trans hg')
  obtain rfl := Option.some.inj (hty.symm.trans ht')
  have := no n fuel t d vs cs.toList p hun hlen hd
  intro i x hx
  rw [World.var?_cell hg hvar i, ← hx, ← this]
  simp
theorem gV {H : Type} {enc : TypeId × Value → H} {P : Program} (hl : laidOutB P = true) {W W' : World} (hb : Below W.heap.size W W') :
    ∀ (ts : List TypeId) (vs : List Value) (ds : List (DataW H)) (ps : List MemPlace), (∀ t ∈ ts, P.readableRec t = true ∧ t < P.types.size) → (∀ x ∈ ps, x.block < W.heap.size) →
      DataW.TrodAll enc P W 0 (fun _ => true) true ts vs ds ps → DataW.TrodAll enc P W' 0 (fun b => decide (b < W.heap.size)) true ts vs ds ps
  | [], [], [], ps, _, _, h => h
  | t :: ts, v :: vs, d :: ds, ps, ht, hp, h => by
    obtain ⟨p, q, h1, h2, rfl⟩ := h
    exact ⟨p, q, Below.trod hl (ht t (by simp)).1 (ht t (by simp)).2 h1 hb (fun x hx => hp x (by simp [hx])),
      gV hl hb ts vs ds q (fun t h => ht t (by simp [h])) (fun x hx => hp x (by simp [hx])) h2, rfl⟩
  | [], [], _ :: _, _, _, _, h => h.elim
  | [], _ :: _, [], _, _, _, h => h.elim
  | [], _ :: _, _ :: _, _, _, _, h => h.elim
  | _ :: _, [], [], _, _, _, h => h.elim
  | _ :: _, [], _ :: _, _, _, _, h => h.elim
  | _ :: _, _ :: _, [], _, _, _, h => h.elim
theorem rt {H : Type} {enc : TypeId × Value → H} {P : Program} {f : Func} {s : ChangeSpec} {W W' : World} {args : Array Value} {ds gs : List (DataW H)} {before : List MemPlace} {tb : TypeId}
    (hl : laidOutB P = true) (hts : f.params.toList.all (fun t => P.readableRec t && decide (t < P.types.size)) = true) (hrt : f.resultTypes = #[tb]) (htb : P.underlying tb = some .bool) (hv : s.vars = [])
    (hW : DataW.Whole enc P f.params.toList s.vars false W args.toList ds gs before)
    (hr : (s.fn H (ds ++ gs)).results = [.lit (.bool true)]) (ha : (s.fn H (ds ++ gs)).args = ds) (hvs : (s.fn H (ds ++ gs)).vars = [])
    (hb : Below W.heap.size W W') : s.post enc P f false true false false W args (.bool true) W' := by
  have hlt := hW.lt
  have hW' := hW
  obtain ⟨p, q, hA, hV, rfl, hfz, hnd⟩ := hW
  refine ⟨ds, gs, p ++ q, [], p, [], hW', ?_, ?_, ?_, hb.frame _, fun h => by cases h⟩
  · rw [hr, hrt]
    exact ⟨[], [], ⟨1, by simp [DataW.trod, Value.cells, htb]⟩, rfl, rfl⟩
  · rw [ha]
    refine gV hl hb _ _ _ _ (fun t ht => ?_) (fun x hx => hlt x (by simp [hx])) hA
    have := List.all_eq_true.1 hts t ht
    simpa using this
  · rw [hv, hvs]; rfl
def fitsTab : List (List Bool) := [[true, true, true, true, true, false], [true, true, false, false, false, false], [true, false, true, false, true, false], [true, false, false, false, false, false], [true, false, true, false, false, false], [false, false, false, false, false, false]]
def eY (a b : Int) : Bool :=
  if a < 0 ∨ 6 < a ∨ b < 0 ∨ 6 < b then false else if a = 0 ∨ b = 0 then true else (fitsTab.getD (a - 1).toNat []).getD (b - 1).toNat false
theorem lJ {a b : Int} (h : a < 0 ∨ 6 < a ∨ b < 0 ∨ 6 < b) : eY a b = false := by unfold eY; rw [if_pos h]
theorem qT (a b : Int) (h : a < 0 ∨ 6 < a ∨ b < 0 ∨ 6 < b) (w : World) :
    Calls Tryz.prog 71 #[.int .i64 a, .int .i64 b] w fun e w' => e = .returned (.bool false) ∧ w = w' := by
  rcases h with h | h | h | h
  · go_enter Tryz.func71, Tryz.ntmps71
    go_wp2
    go_ret
    exact ⟨rfl, rfl⟩
  · have h0 : ¬ a < 0 := by omega
    go_enter Tryz.func71, Tryz.ntmps71
    go_wp2
    go_ret
    exact ⟨rfl, rfl⟩
  · by_cases h0 : a < 0 <;> by_cases h1 : 6 < a
    all_goals
      go_enter Tryz.func71, Tryz.ntmps71
      go_wp2
      all_goals go_ret
      all_goals exact ⟨rfl, rfl⟩
  · have h2 : ¬ b < 0 := by omega
    by_cases h0 : a < 0 <;> by_cases h1 : 6 < a
    all_goals
      go_enter Tryz.func71, Tryz.ntmps71
      go_wp2
      all_goals go_ret
      all_goals exact ⟨rfl, rfl⟩
theorem mo {a : Int} (h0 : 0 ≤ a) (h6 : a ≤ 6) : a = 0 ∨ a = 1 ∨ a = 2 ∨ a = 3 ∨ a = 4 ∨ a = 5 ∨ a = 6 := by omega
theorem lU (a b : Int) (h0 : 0 ≤ a) (h6 : a ≤ 6) (k0 : 0 ≤ b) (k6 : b ≤ 6) (w : World) :
    Calls Tryz.prog 71 #[.int .i64 a, .int .i64 b] w fun e w' => e = .returned (.bool (eY a b)) ∧ Kept (fun _ => False) w w' := by
  rcases mo h0 h6 with rfl | rfl | rfl | rfl | rfl | rfl | rfl <;> rcases mo k0 k6 with rfl | rfl | rfl | rfl | rfl | rfl | rfl
  all_goals
    clear h0 h6 k0 k6
    go_enter Tryz.func71, Tryz.ntmps71
    go_wp2
    go_ret
    exact ⟨rfl, by first | exact Kept.refl _ _ | exact (Kept.refl _ _).alloc _⟩
theorem l8 (a b : Int) : eY a b = cK a b := by
  by_cases h : a < 0 ∨ 6 < a ∨ b < 0 ∨ 6 < b
  · rw [lJ h]
    unfold cK br
    rcases h with h | h | h | h <;> simp <;> omega
  · rcases mo (a := a) (by omega) (by omega) with rfl | rfl | rfl | rfl | rfl | rfl | rfl <;> rcases mo (a := b) (by omega) (by omega) with rfl | rfl | rfl | rfl | rfl | rfl | rfl <;> decide
theorem rH (a b : Int) (w : World) : Calls Tryz.prog 71 #[.int .i64 a, .int .i64 b] w fun e w' => e = .returned (.bool (cK a b)) ∧ Kept (fun _ => False) w w' := by
  rw [← l8]
  by_cases h : a < 0 ∨ 6 < a ∨ b < 0 ∨ 6 < b
  · rw [lJ h]
    exact (qT a b h w).mono (fun e w' ⟨h1, h2⟩ => ⟨h1, h2 ▸ Kept.refl _ _⟩)
  · exact lU a b (by omega) (by omega) (by omega) (by omega) w
def dj (a b : Int) (k : Nat) : Bool := (List.range k).all fun i => !(eY a i) || eY b i
def fO (a b : Int) : Bool :=
  if a < 0 ∨ 6 < a ∨ b < 0 ∨ 6 < b then false else dj a b 7
theorem jt (a b : Int) (k : Nat) : dj a b (k + 1) = (dj a b k && (!(eY a k) || eY b k)) := by
  simp [dj, List.range_succ, List.all_append]
theorem kK {a b : Int} {k : Nat} (h1 : eY a k = true) (h2 : eY b k = false) (hk : k < 7) : dj a b 7 = false := by
  rw [Bool.eq_false_iff]
  intro h
  have := List.all_eq_true.1 h k (List.mem_range.2 hk)
  simp [h1, h2] at this
theorem qr (a b : Int) (h0 : 0 ≤ a) (h6 : a ≤ 6) (k0 : 0 ≤ b) (k6 : b ≤ 6) (w : World) :
    Calls Tryz.prog 54 #[.int .i64 a, .int .i64 b] w fun e w' => e = .returned (.bool (fO a b)) ∧ Kept (fun _ => False) w w' := by
  have hc : fO a b = dj a b 7 := by unfold fO; rw [if_neg (by omega)]
  have HC := BO hc
  clear hc
  go_enter Tryz.func54, Tryz.ntmps54
  go_wp2
  go_loopw [5, 6, 7] (fun i _ _ wr => ∃ k : Nat, k ≤ 7 ∧ i = .int .i64 k ∧ dj a b k = true ∧ Kept (fun _ => False) w wr)
    (fun i _ _ _ => 7 - (intOf i).toNat)
  case atStart => exact ⟨0, by omega, rfl, rfl, Kept.refl _ _⟩
  case round =>
    obtain ⟨k, hk, rfl, hu, hb⟩ := hrel
    have HU := BO hu
    clear hu
    have hsz := hb.size
    by_cases hlt : k < 7
    · cases h1 : eY a k <;> cases h2 : eY b k
      all_goals
        have H1 := BO h1
        have H2 := BO h2
        clear h1 h2
        go_wp2_with fail
        refine (lU a k (by omega) (by omega) (by omega) (by omega) _).mono ?_
        rintro e w1 ⟨rfl, hb1⟩
        rw [H1.out]
        go_wp2_with fail
        refine (lU b k (by omega) (by omega) (by omega) (by omega) _).mono ?_
        rintro e w2 ⟨rfl, hb2⟩
        rw [H2.out]
        go_wp2_with fail
        have hb3 : Kept (fun _ => False) w w2 := (hb.trans hb1 (fun _ h => h.elim)).trans hb2 (fun _ h => h.elim)
        first
        | (go_roundw
           case rel => exact ⟨k + 1, by omega, by go_num, by rw [jt, HU.out, H1.out, H2.out]; rfl, hb3⟩
           case measure => simp [intOf]; omega)
        | (go_ret
           exact ⟨mD (by rw [HC.out, kK H1.out H2.out hlt]), hb3⟩)
    · have hk7 : ¬ (k : Int) ≤ 6 := by omega
      go_wp2_with fail
      go_ret
      obtain rfl : k = 7 := by omega
      exact ⟨mD (by rw [HC.out, HU.out]), hb⟩
theorem lF (a b : Int) : fO a b = aN a b := by
  unfold fO aN dj
  have : (fun i : Nat => !(eY a i) || eY b i) = (fun i : Nat => !(cK a i) || cK b i) := funext fun i => by rw [l8, l8]
  rw [this]
  split
  · rename_i h
    symm
    rw [Bool.and_eq_false_iff]
    left
    unfold br
    rcases h with h | h | h | h <;> simp <;> omega
  · rename_i h
    have h1 : br a = true := by unfold br; simp; omega
    have h2 : br b = true := by unfold br; simp; omega
    rw [h1, h2]
    rfl
theorem nR (a b : Int) (ha : 0 ≤ a ∧ a ≤ 6) (hb : 0 ≤ b ∧ b ≤ 6) (w : World) : Calls Tryz.prog 54 #[.int .i64 a, .int .i64 b] w fun e w' => e = .returned (.bool (aN a b)) ∧ Kept (fun _ => False) w w' := by
  rw [← lF]
  exact qr a b ha.1 ha.2 hb.1 hb.2 w
end Go.Proofs.YtgljdkjepdknnaaGreatDoor
