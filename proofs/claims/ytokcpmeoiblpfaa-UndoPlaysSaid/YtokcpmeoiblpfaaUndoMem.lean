/- The words of the undo log: values, keys, entries as cells; the map of keys as a set; the log in memory. -/
import Derived.Test.YtokcpmeoiblpfaaOpen
import Derived.Maps.OwnSet
import Derived.DeepKeys4
namespace Go.Proofs.Ytokcpmeoiblpfaa
open Go.ChangeShapes Go.WideShapes Go.ChangeAt Go.RowKit

/-- api.Value -/
structure Val where
  t : Bool
  n : Int
  s : ByteArray
deriving DecidableEq
def Val.cells (v : Val) : List Value := [.bool v.t, .int .i64 v.n, .string v.s]
def Val.wf (v : Val) : Prop := (Lit.int .i64 v.n).wf = true ∧ v.s.size ≤ maxLen
/-- a table and a key -/
structure Spot where
  t : Int
  k : Val
deriving DecidableEq
def Spot.cells (p : Spot) : List Value := .int .i64 p.t :: p.k.cells
def Spot.wf (p : Spot) : Prop := (Lit.int .i64 p.t).wf = true ∧ p.k.wf
/-- api.Entry; was: the slice -/
structure Ent where
  t : Int
  k : Val
  was : Value
def Ent.cells (e : Ent) : List Value := [.int .i64 e.t, .bool e.k.t, .int .i64 e.k.n, .string e.k.s, e.was]
def Ent.spot (e : Ent) : Spot := ⟨e.t, e.k⟩

theorem Val.len (v : Val) : v.cells.length = 3 := rfl
theorem Spot.len (v : Spot) : v.cells.length = 4 := rfl
theorem Ent.len (v : Ent) : v.cells.length = 5 := rfl
theorem Val.one (v : Val) : ∀ u ∈ v.cells, u.oneCell' = true := by intro u hu; simp [Val.cells] at hu; rcases hu with rfl | rfl | rfl <;> rfl
theorem Spot.one (v : Spot) : ∀ u ∈ v.cells, u.oneCell' = true := by intro u hu; simp [Spot.cells, Val.cells] at hu; rcases hu with rfl | rfl | rfl | rfl <;> rfl

/-! ### the map of keys, as a set -/
abbrev tSpot : TypeId := 63
abbrev tMap : TypeId := 55
abbrev tInt : TypeId := 3
theorem laidOut : laidOutB Try.prog = true := by kernel_rfl
theorem spotLaw : WideMaps.KeyLaw Try.prog tSpot := deep_law_laid laidOut (m := 4) (by omega) (of_decide_eq_true (by kernel_rfl)) (by kernel_rfl) (by kernel_rfl)
theorem spotKeyed : Maps.Keyed Try.prog tSpot := Maps.Keyed.of_law spotLaw
theorem uMap : Try.prog.underlying tMap = some (.map tSpot tInt) := Try.underlying55
theorem uInt : Try.prog.underlying tInt = some (.int .i64) := Try.underlying3
theorem uSpot : (match Try.prog.underlying tSpot with | some (.array _ _) | some (.struct _) => true | _ => false) = true := by kernel_rfl

def keyLit (p : Spot) : Lit := .string (keyBytes [.int .i64 p.t, .bool p.k.t, .int .i64 p.k.n, .string p.k.s.data.toList])

theorem lits_spot (p : Spot) (h : p.wf) (D : Nat) : Try.prog.keyLits (D + 3) tSpot p.cells = some [.int .i64 p.t, .bool p.k.t, .int .i64 p.k.n, .string p.k.s.data.toList] := by
  obtain ⟨h1, h2, h3⟩ := h
  have c1 : Try.prog.cellsOf 63 = 4 := by kernel_rfl
  have c2 : Try.prog.cellsOf 23 = 3 := by kernel_rfl
  have c3 : Try.prog.cellsOf 3 = 1 := by kernel_rfl
  have c4 : Try.prog.cellsOf 4 = 1 := by kernel_rfl
  have c5 : Try.prog.cellsOf 2 = 1 := by kernel_rfl
  have c6 : Try.prog.cellsOf 9 = 1 := by kernel_rfl
  simp [Program.keyLits, tSpot, Spot.cells, Val.cells, c1, c2, c3, c4, c5, c6, h1, h2, h3]
  rw [if_pos (by decide)]
  rfl
theorem keyOf_spot (p : Spot) (h : p.wf) : keyOf Try.prog tSpot (.agg p.cells.toArray) = some (keyLit p) := by
  have hk : Try.prog.keyType 63 = true := by kernel_rfl
  have hz : 2 ≤ Try.prog.types.size := of_decide_eq_true (by kernel_rfl)
  have c1 : Try.prog.cellsOf 63 = 4 := by kernel_rfl
  obtain ⟨D, hD⟩ : ∃ D, Try.prog.types.size + 1 = D + 3 := ⟨Try.prog.types.size - 2, by omega⟩
  have hl := lits_spot p h D
  unfold keyOf
  rw [show Try.prog.underlying tSpot = _ from Try.underlying63]
  dsimp only
  rw [if_pos (by simp [tSpot, hk, Value.formed, c1, Spot.cells, Val.cells]), hD]
  simp only [Value.cells]
  rw [hl]
  rfl
theorem keyLit_inj {p q : Spot} (hp : p.wf) (hq : q.wf) (h : keyLit p = keyLit q) : p = q := by
  have e1 := keyOf_spot p hp
  have e2 := keyOf_spot q hq
  rw [← h] at e2
  have := spotKeyed.inj e1 e2
  obtain ⟨pt, ⟨pk, pn, ps⟩⟩ := p
  obtain ⟨qt, ⟨qk, qn, qs⟩⟩ := q
  simp [Spot.cells, Val.cells] at this
  obtain ⟨rfl, rfl, rfl, rfl⟩ := this
  rfl
theorem keyLit_key (p : Spot) (hp : p.wf) : WideAt.IsKeyLit (keyLit p) := spotKeyed.key (keyOf_spot p hp)

/-- block mb is a map whose keys are those of met -/
def MapOf (w : World) (mb : Nat) (met : List Spot) : Prop :=
  ∃ D : DataW Unit, w.ownsMap Try.prog tSpot (plainElem Try.prog tInt) mb met.length D ∧ Maps.IsMap D ∧ ∀ p : Spot, p.wf → Maps.has D (keyLit p) = decide (p ∈ met)
theorem MapOf.lt {w : World} {mb : Nat} {met : List Spot} (h : MapOf w mb met) : mb < w.heap.size := by obtain ⟨D, h, _⟩ := h; exact h.lt
theorem MapOf.frame {w w' : World} {mb : Nat} {met : List Spot} (h : MapOf w mb met) (hb : w'.heap[mb]? = w.heap[mb]?) : MapOf w' mb met := by
  obtain ⟨D, ⟨es, clock, h1, h2⟩, h3⟩ := h
  exact ⟨D, ⟨es, clock, hb.trans h1, h2⟩, h3⟩
theorem MapOf.made (w : World) : MapOf (w.alloc (.map #[] 0)) w.heap.size [] := ⟨.map [], World.ownsMap_made w _ _ _, ⟨[], rfl⟩, fun _ _ => rfl⟩
theorem zeroI (w : World) : (zeroValue tInt).run Try.prog w = .ok (.int .i64 0) w := Try.zeroValue3 w
theorem MapOf.look {w : World} {mb : Nat} {met : List Spot} (h : MapOf w mb met) (p : Spot) (hp : p.wf) :
    ∃ c : Int, (Instr.lookup tMap (.map (some mb)) (.agg p.cells.toArray) true).run Try.prog w = .ok (.tuple #[.int .i64 c, .bool (decide (p ∈ met))]) w := by
  obtain ⟨D, hD, _, hk⟩ := h
  obtain ⟨v, ps, hr, hv⟩ := hD.look_ok spotKeyed uMap (zeroI w) (plainElem_int uInt (by decide)) (keyOf_spot p hp)
  obtain ⟨c, rfl, _, _⟩ := plainElem_int_inv uInt hv
  rw [hk p hp] at hr
  exact ⟨c, hr⟩
theorem MapOf.put {w : World} {mb : Nat} {met : List Spot} (h : MapOf w mb met) (p : Spot) (hp : p.wf) (c : Int) (hc : (Lit.int .i64 c).wf = true) (hlen : met.length < maxLen) :
    ∃ w', (Instr.mapUpdate tMap (.map (some mb)) (.agg p.cells.toArray) (.int .i64 c)).run Try.prog w = .ok () w' ∧ MapOf w' mb (met ++ [p]) ∧ Kept (fun k => k = mb) w w' := by
  obtain ⟨D, hD, hi, hk⟩ := h
  obtain ⟨w', hr, h1, h2⟩ := hD.update spotKeyed uMap hlen (keyOf_spot p hp) (plainElem_int uInt hc)
  refine ⟨w', hr, ⟨D.put (keyLit p) (.lit (.int .i64 c)), by rw [List.length_append]; exact h1, hi.put _ _, fun q hq => ?_⟩, (Kept.of_grown h2).mono (fun k _ e => by simpa using e)⟩
  by_cases e : q = p
  · subst e
    rw [Maps.has_put_same hi (keyLit_key q hq)]
    simp
  · rw [Maps.has_put_other (fun h => e (keyLit_inj hq hp h)), hk q hq]
    simp [e]
theorem wpList_MapOf_put {w : World} {ops : Array Oper} {rest : List Oper} {o : Oper} {a : Act} {Q : Exit → Act → World → Prop} (hgd : o.guard = none) (m x v : Operand) (hop : o.op = Op.mapUpdate tMap m x v)
    {mb : Nat} {met : List Spot} (h : MapOf w mb met) (p : Spot) (hp : p.wf) (c : Int) (hc : (Lit.int .i64 c).wf = true) (hlen : met.length < maxLen) (hm : a.eval m = .map (some mb)) (hx : a.eval x = .agg p.cells.toArray) (hv : a.eval v = .int .i64 c)
    (hK : ∀ w', MapOf w' mb (met ++ [p]) → Kept (fun k => k = mb) w w' → wpList Try.prog ops Q rest (a.put o.dst undef) w') : wpList Try.prog ops Q (o :: rest) a w := by
  refine wpList_plain hgd fun K' hK' => ?_
  obtain ⟨w', hrun, r1, r2⟩ := h.put p hp c hc hlen
  unfold Oper.wp
  simp [execOp, hop, hm, hx, hv, hrun, Result.andThen]
  exact hK' _ _ (hK w' r1 r2)

/-! ### the log -/
structure LogM where
  room : Int
  es : List Ent
  s0 : Int
  s1 : Int
  s2 : Int
  s3 : Int
  met : List Spot
abbrev tLog : TypeId := 59
abbrev tEnt : TypeId := 27
def logCells (m : LogM) (lv : Value) (mb : Nat) (ov : Value) : Array Value :=
  #[.int .i64 m.room, lv, .int .i64 m.s0, .int .i64 m.s1, .int .i64 m.s2, .int .i64 m.s3, .map (some mb), ov]

structure LogR (w : World) (b mb : Nat) (lv ov : Value) (m : LogM) : Prop where
  blk : w.heap[b]? = some (.cells (logCells m lv mb ov) tLog (0, 0))
  own : Own w tEnt 5 lv m.es.length (m.es.flatMap Ent.cells)
  ord : Own w tSpot 4 ov m.met.length (m.met.flatMap Spot.cells)
  map : MapOf w mb m.met
  ne1 : b ≠ mb
  ne2 : lv.ownBlock ≠ some b
  ne3 : lv.ownBlock ≠ some mb
  ne4 : ov.ownBlock ≠ some b
  ne5 : ov.ownBlock ≠ some mb
  ne6 : ∀ k, lv.ownBlock = some k → ov.ownBlock ≠ some k

/-- the blocks of a log -/
def LogS (b mb : Nat) (lv ov : Value) (k : Nat) : Prop := k = b ∨ k = mb ∨ lv.ownBlock = some k ∨ ov.ownBlock = some k

theorem LogR.frame {w w' : World} {b mb : Nat} {lv ov : Value} {m : LogM} {S : Nat → Prop} (h : LogR w b mb lv ov m) (hk : Kept S w w') (hS : ∀ k, LogS b mb lv ov k → ¬ S k) : LogR w' b mb lv ov m :=
  ⟨(hk.block b (lt_of_heap h.blk) (hS b (.inl rfl))).trans h.blk, h.own.kept hk (fun g hg => hS g (.inr (.inr (.inl hg)))), h.ord.kept hk (fun g hg => hS g (.inr (.inr (.inr hg)))),
    h.map.frame (hk.block mb h.map.lt (hS mb (.inr (.inl rfl)))), h.ne1, h.ne2, h.ne3, h.ne4, h.ne5, h.ne6⟩
theorem LogR.lt {w : World} {b mb : Nat} {lv ov : Value} {m : LogM} (h : LogR w b mb lv ov m) : ∀ k, LogS b mb lv ov k → k < w.heap.size := by
  rintro k (rfl | rfl | hk | hk)
  · exact lt_of_heap h.blk
  · exact h.map.lt
  · exact h.own.lt k hk
  · exact h.ord.lt k hk

/-- a log at b; its blocks are among S -/
def LogAt (w : World) (b : Nat) (m : LogM) (S : Nat → Prop) : Prop := ∃ mb lv ov, LogR w b mb lv ov m ∧ ∀ k, S k ↔ LogS b mb lv ov k
theorem LogAt.frame {w w' : World} {b : Nat} {m : LogM} {S T : Nat → Prop} (h : LogAt w b m S) (hk : Kept T w w') (hS : ∀ k, S k → ¬ T k) : LogAt w' b m S := by
  obtain ⟨mb, lv, ov, h1, h2⟩ := h
  exact ⟨mb, lv, ov, h1.frame hk (fun k hk => hS k ((h2 k).2 hk)), h2⟩
theorem LogAt.lt {w : World} {b : Nat} {m : LogM} {S : Nat → Prop} (h : LogAt w b m S) : ∀ k, S k → k < w.heap.size := by
  obtain ⟨mb, lv, ov, h1, h2⟩ := h
  exact fun k hk => h1.lt k ((h2 k).1 hk)
/-- made between w and w' -/
def NewIn (w w' : World) (k : Nat) : Prop := w.heap.size ≤ k ∧ k < w'.heap.size
end Go.Proofs.Ytokcpmeoiblpfaa
