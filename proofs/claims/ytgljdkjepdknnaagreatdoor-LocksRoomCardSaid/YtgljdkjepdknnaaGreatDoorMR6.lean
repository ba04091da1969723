/- Joined texts: Predicates, claims, entries of a queue of claims in memory. (printed by genq.py) IndexFunc, ContainsFunc over a queue's entries. (printed by genq.py) DeleteFunc over a queue's entries. (printed by genq.py) The queue's functions of entries: whose an entry is. (printed by genq.py) A queue in memory; who waits. (printed by genq.py) IndexFunc, ContainsFunc over claims. (printed by genq.py) -/
import Derived.Test.YtgljdkjepdknnaaGreatDoorMR2
/- Predicates, claims, entries of a queue of claims in memory. (printed by genq.py) -/
namespace Go.Proofs.YtgljdkjepdknnaaGreatDoor
open Go.ChangeShapes Go.WideShapes Go.ChangeAt Go.RowKit
set_option maxRecDepth 100000
set_option linter.unusedSimpArgs false


abbrev tEnC : TypeId := 118
abbrev tQC : TypeId := 110
abbrev tCl : TypeId := 37
abbrev tPr : TypeId := 35
/-- a predicate's words in memory, and what lies under them -/
structure PredE where
 op : Int
 col : Int
 v : Val
 w : Val
 la : Option Addr
 ln : Nat
 lc : Nat
 subs : List PredT
def PredE.cells (x : PredE) : List Value := [.int .i64 x.op, .int .i64 x.col, .bool x.v.t, .int .i64 x.v.n, .string x.v.s, .bool x.w.t, .int .i64 x.w.n, .string x.w.s, .slice x.la x.ln x.lc]
def PredE.p (x : PredE) : PredT := .mk x.op x.col x.v x.w x.subs
theorem PredE.len (x : PredE) : x.cells.length = 9 := rfl
theorem PredE.one (x : PredE) : ∀ u ∈ x.cells, u.oneCell' = true := by intro u hu; simp [PredE.cells] at hu; rcases hu with rfl | rfl | rfl | rfl | rfl | rfl | rfl | rfl | rfl <;> rfl
/-- a row of predicates, in what turns no more -/
inductive PredsAt (D : PH) : Value → List PredT → Prop where
 | mk (v : Value) (es : List PredE) (h : RdP D 9 v es.length (es.flatMap PredE.cells)) (hs : ∀ e ∈ es, PredsAt D (.slice e.la e.ln e.lc) e.subs) : PredsAt D v (es.map PredE.p)
/-- likewise, as a world has it -/
inductive PredsRd (w : World) : Value → List PredT → Prop where
 | mk (v : Value) (es : List PredE) (h : Rd w 9 v es.length (es.flatMap PredE.cells)) (hs : ∀ e ∈ es, PredsRd w (.slice e.la e.ln e.lc) e.subs) : PredsRd w v (es.map PredE.p)
theorem PredsAt.mono {D D' : PH} (le : PH.le D D') {v : Value} {l : List PredT} (h : PredsAt D v l) : PredsAt D' v l := by
 induction h with
 | mk v es h _ ih => exact .mk v es (h.mono le) ih
theorem PredsAt.rd {B w : World} {D : PH} {l' : List HP} (hs : Sat B D w l') {v : Value} {l : List PredT} (h : PredsAt D v l) : PredsRd w v l := by
 induction h with
 | mk v es h _ ih => exact .mk v es (h.rd hs) ih
theorem PredsRd.kept {w w' : World} (k : Kept (fun _ => False) w w') {v : Value} {l : List PredT} (h : PredsRd w v l) : PredsRd w' v l := by
 induction h with
 | mk v es h _ ih => exact .mk v es (h.kept k (fun _ _ h => h)) ih
abbrev RowRd (w : World) (v : Value) (r : List Val) : Prop := Rd w 3 v r.length (r.flatMap Val.cells)
abbrev RowD (D : PH) (v : Value) (r : List Val) : Prop := RdP D 3 v r.length (r.flatMap Val.cells)
/-- rows, likewise -/
def RowsAt (D : PH) (v : Value) (rs : List (List Val)) : Prop := ∃ hs : List Value, hs.length = rs.length ∧ (∀ u ∈ hs, u.oneCell' = true) ∧ RdP D 1 v rs.length hs ∧ ∀ (i : Nat) (h : Value) (r : List Val), hs[i]? = some h → rs[i]? = some r → RowD D h r
def RowsRd (w : World) (v : Value) (rs : List (List Val)) : Prop := ∃ hs : List Value, hs.length = rs.length ∧ Rd w 1 v rs.length hs ∧ ∀ (i : Nat) (h : Value) (r : List Val), hs[i]? = some h → rs[i]? = some r → RowRd w h r
theorem RowsAt.mono {D D' : PH} (le : PH.le D D') {v : Value} {rs : List (List Val)} (h : RowsAt D v rs) : RowsAt D' v rs := by
 obtain ⟨hs, h1, h2, h3, h4⟩ := h
 exact ⟨hs, h1, h2, h3.mono le, fun i u r a b => (h4 i u r a b).mono le⟩
theorem RowsAt.rd {B w : World} {D : PH} {l : List HP} (hs : Sat B D w l) {v : Value} {rs : List (List Val)} (h : RowsAt D v rs) : RowsRd w v rs := by
 obtain ⟨us, h1, h2, h3, h4⟩ := h
 exact ⟨us, h1, h3.rd hs, fun i u r a b => (h4 i u r a b).rd hs⟩
theorem RowsRd.kept {w w' : World} (k : Kept (fun _ => False) w w') {v : Value} {rs : List (List Val)} (h : RowsRd w v rs) : RowsRd w' v rs := by
 obtain ⟨hs, h1, h2, h3⟩ := h
 exact ⟨hs, h1, h2.kept k (fun _ _ h => h), fun i u r a b => (h3 i u r a b).kept k (fun _ _ h => h)⟩
/-- a claim's words in memory -/
structure ClmE where
 kind : Int
 table : Int
 mode : Int
 key : Val
 ia : Option Addr
 il : Nat
 ic : Nat
 imgs : List (List Val)
 pr : PredE
def ClmE.cells (x : ClmE) : List Value := [.int .i64 x.kind, .int .i64 x.table, .int .i64 x.mode, .bool x.key.t, .int .i64 x.key.n, .string x.key.s, .slice x.ia x.il x.ic, .int .i64 x.pr.op, .int .i64 x.pr.col, .bool x.pr.v.t, .int .i64 x.pr.v.n, .string x.pr.v.s, .bool x.pr.w.t, .int .i64 x.pr.w.n, .string x.pr.w.s, .slice x.pr.la x.pr.ln x.pr.lc]
def ClmE.c (x : ClmE) : Clm := ⟨x.kind, x.table, x.mode, x.key, x.imgs, x.pr.p⟩
theorem ClmE.len (x : ClmE) : x.cells.length = 16 := rfl
theorem ClmE.one (x : ClmE) : ∀ u ∈ x.cells, u.oneCell' = true := by intro u hu; simp [ClmE.cells] at hu; rcases hu with rfl | rfl | rfl | rfl | rfl | rfl | rfl | rfl | rfl | rfl | rfl | rfl | rfl | rfl | rfl | rfl <;> rfl
def ClOk (D : PH) (x : ClmE) : Prop := RowsAt D (.slice x.ia x.il x.ic) x.imgs ∧ PredsAt D (.slice x.pr.la x.pr.ln x.pr.lc) x.pr.subs
def RdCl (w : World) (x : ClmE) : Prop := RowsRd w (.slice x.ia x.il x.ic) x.imgs ∧ PredsRd w (.slice x.pr.la x.pr.ln x.pr.lc) x.pr.subs
theorem ClOk.mono {D D' : PH} {x : ClmE} (h : ClOk D x) (le : PH.le D D') : ClOk D' x := ⟨h.1.mono le, h.2.mono le⟩
theorem ClOk.rd {B w : World} {D : PH} {l : List HP} {x : ClmE} (h : ClOk D x) (hs : Sat B D w l) : RdCl w x := ⟨h.1.rd hs, h.2.rd hs⟩
theorem RdCl.kept {w w' : World} {x : ClmE} (h : RdCl w x) (k : Kept (fun _ => False) w w') : RdCl w' x := ⟨h.1.kept k, h.2.kept k⟩
theorem RdCl.drew {w : World} {x : ClmE} (h : RdCl w x) : RdCl w.drew x := h.kept ((Kept.refl _ _).drew)
@[go_sem] theorem sizeCl (x : ClmE) : x.cells.toArray.size = 16 := rfl
theorem loadCl {w : World} {g o : Nat} {x : ClmE} (h : w.rangeAt g o x.cells) : (loadVar tCl ⟨g, o, none⟩).run Tryz.prog w = .ok (.agg x.cells.toArray) w := run_loadVar_mid w g o _ _ _ h Tryz.underlying37 rfl (by kernel_rfl)
abbrev cvC (x : ClmE) : Value := .agg x.cells.toArray
abbrev ccC (x : ClmE) : Array Value := x.cells.toArray
abbrev cdC (x : ClmE) : Clm := x.c
/-- an entry's words in memory -/
structure EntE where
 o : Int
 x : ClmE
 more : Bool
def cellsC (e : EntE) : List Value := [.int .i64 e.o, .int .i64 e.x.kind, .int .i64 e.x.table, .int .i64 e.x.mode, .bool e.x.key.t, .int .i64 e.x.key.n, .string e.x.key.s, .slice e.x.ia e.x.il e.x.ic, .int .i64 e.x.pr.op, .int .i64 e.x.pr.col, .bool e.x.pr.v.t, .int .i64 e.x.pr.v.n, .string e.x.pr.v.s, .bool e.x.pr.w.t, .int .i64 e.x.pr.w.n, .string e.x.pr.w.s, .slice e.x.pr.la e.x.pr.ln e.x.pr.lc, .bool e.more]
abbrev entC (e : EntE) : Ent Clm := ⟨e.o, e.x.c, e.more⟩
abbrev OkC (D : PH) (e : EntE) : Prop := ClOk D e.x
theorem lenC (e : EntE) : (cellsC e).length = 18 := rfl
theorem oneC (e : EntE) : ∀ u ∈ cellsC e, u.oneCell' = true := by intro u hu; simp [cellsC] at hu; rcases hu with rfl | rfl | rfl | rfl | rfl | rfl | rfl | rfl | rfl | rfl | rfl | rfl | rfl | rfl | rfl | rfl | rfl | rfl <;> rfl
abbrev mkC (o : Int) (x : ClmE) (b : Bool) : EntE := ⟨o, x, b⟩
abbrev lessC (e : EntE) : EntE := ⟨e.o, e.x, false⟩
theorem less_arrC (e : EntE) : (cellsC e).set 17 (.bool false) = cellsC (lessC e) := rfl
theorem moreC {w : World} {g o : Nat} {e : EntE} (h : w.rangeAt g o (cellsC e)) : w.cell? ⟨g, o + 17, none⟩ = some (.bool e.more) := h 17 _ rfl
@[go_sem] theorem sizeC (e : EntE) : (cellsC e).toArray.size = 18 := rfl
theorem loadC {w : World} {g o : Nat} {e : EntE} (h : w.rangeAt g o (cellsC e)) : (loadVar tEnC ⟨g, o, none⟩).run Tryz.prog w = .ok (.agg (cellsC e).toArray) w := run_loadVar_mid w g o _ _ _ h Tryz.underlying118 rfl (by kernel_rfl)
theorem boxC {w : World} {b : Nat} {e : EntE} {t : TypeId} {fr : Nat × Nat} (h : w.heap[b]? = some (.cells (cellsC e).toArray t fr)) : w.cell? ⟨b, 0, none⟩ = some (.int .i64 e.o) ∧ w.cell? ⟨b, 17, none⟩ = some (.bool e.more) := by
 refine ⟨?_, ?_⟩ <;> simp [World.cell?, h, cellsC]
theorem boxCl {w : World} {b : Nat} {e : EntE} {t : TypeId} {fr : Nat × Nat} (h : w.heap[b]? = some (.cells (cellsC e).toArray t fr)) : w.rangeAt b 1 e.x.cells := fun j v hv => by
 rw [cell_of_row w b (1 + j) _ t fr h]
 have hj : j < 16 := by have := (List.getElem?_eq_some_iff.1 hv).1; rwa [ClmE.len] at this
 rw [← hv]
 rw [show 1 + j = j + 1 by omega]
 simp only [List.getElem?_toArray, cellsC, List.getElem?_cons_succ]
 show (e.x.cells ++ [.bool e.more])[j]? = _
 rw [List.getElem?_append_left (by rw [ClmE.len]; exact hj)]
noncomputable def RC : Rul Clm := ⟨clmSame, clmConf, clmCov, clmJoin⟩
theorem RC_ok : RulOk RC (fun c => clmPlain c = true) := ⟨clmConf_sym, fun h c y hs => clmSame_join h c y hs, fun h c y hh hc hs hy => clm_keep h c y hh hc hs hy⟩
end Go.Proofs.YtgljdkjepdknnaaGreatDoor

/- IndexFunc, ContainsFunc over a queue's entries. (printed by genq.py) -/
namespace Go.Proofs.YtgljdkjepdknnaaGreatDoor
open Go.ChangeShapes Go.WideShapes Go.ChangeAt Go.RowKit
set_option maxRecDepth 100000
set_option linter.unusedSimpArgs false


set_option maxHeartbeats 1000000 in
theorem indexFunc_C {w : World} {v : Value} {xs : List (EntE)} {F : Nat} {caps : Array Value} (p : EntE → Bool) (hrd : Rd w 18 v xs.length (xs.flatMap cellsC)) (HF : ∀ x ∈ xs, PredF F caps w (cellsC x) (p x)) :
  Calls Tryz.prog 128 #[v, .func (.func F) #[] caps] w fun e w' => e = .returned (.int .i64 (idxI p xs)) ∧ Kept (fun _ => False) w w' := by
 obtain ⟨_, hml, ao, cap, rfl, hnc, hcm, _⟩ := id hrd
 unfold maxLen at hml hcm
 have HRD := Lib.hid hrd
 have HFF := Lib.hid HF
 clear hrd HF
 obtain ⟨N, hN⟩ : ∃ N, xs.length = N := ⟨_, rfl⟩
 have HN := Lib.hid hN
 rw [hN] at HRD hml hnc ⊢
 clear hN
 go_enter Tryz.func128, Tryz.ntmps128
 go_wp2_with fail
 go_loopw [8] (fun i wr => ∃ j : Nat, i = .int .i64 j ∧ j ≤ N ∧ (∀ x ∈ xs.take j, p x = false) ∧ Kept (fun _ => False) w wr) (fun i _ => N - (intOf i).toNat)
 case atStart => exact ⟨0, rfl, by omega, fun x hx => by simp at hx, Kept.refl _ _⟩
 case round =>
  obtain ⟨j, rfl, hj, hp, hk⟩ := hrel
  have HP := Lib.hid hp
  have HK := Lib.hid hk
  clear hp hk
  by_cases hlt : j < N
  ·have hi : (j : Int) < (N : Int) := by omega
   obtain ⟨x, hx⟩ : ∃ x, xs[j]? = some x := ⟨xs[j]'(by rw [HN.out]; exact hlt), List.getElem?_eq_getElem _⟩
   obtain ⟨g, o, rfl, hrng⟩ := elem_range lenC (HRD.out.kept HK.out (fun _ _ h => h)) hx HN.out
   have HL := Lib.hid (loadC hrng)
   have HX := Lib.hid hx
   obtain ⟨hent, hcall⟩ := HFF.out x (List.mem_of_getElem? hx)
   unfold Enters at hent
   have HC := Lib.hid (hcall wr HK.out)
   clear hx hrng hcall
   cases hpx : p x
   ·rw [hpx] at HC
    have HPX := Lib.hid hpx
    clear hpx
    go_wp2_with (first | (refine wpList_ld rfl _ _ rfl _ _ rfl _ HL.out ?_) | (refine HC.out.mono ?_; rintro e1 w1 ⟨rfl, hk1⟩; have HK1 := Lib.hid (HK.out.trans hk1 (fun _ h => h.elim)); clear hk1 HC HL))
    go_roundw
    case rel => exact ⟨j + 1, by go_num, by omega, mem_take_succ HP.out HX.out HPX.out, HK1.out⟩
    case measure => simp [intOf]; omega
   ·rw [hpx] at HC
    have HPX := Lib.hid hpx
    clear hpx
    go_wp2_with (first | (refine wpList_ld rfl _ _ rfl _ _ rfl _ HL.out ?_) | (refine HC.out.mono ?_; rintro e1 w1 ⟨rfl, hk1⟩; have HK1 := Lib.hid (HK.out.trans hk1 (fun _ h => h.elim)); clear hk1 HC HL))
    go_ret
    exact ⟨by rw [idxI_at HP.out HX.out HPX.out]; rfl, HK1.out⟩
  ·have hi : ¬ ((j : Int) < (N : Int)) := by omega
   have he : idxI p xs = -1 := idxI_none (by have := HP.out; rwa [List.take_of_length_le (by rw [HN.out]; omega)] at this)
   have HE := Lib.hid he
   clear he
   go_wp2_with fail
   go_ret
   exact ⟨by rw [HE.out]; rfl, HK.out⟩
set_option maxHeartbeats 1000000 in
theorem containsFunc_C {w : World} {v : Value} {xs : List (EntE)} {F : Nat} {caps : Array Value} (p : EntE → Bool) (hrd : Rd w 18 v xs.length (xs.flatMap cellsC)) (HF : ∀ x ∈ xs, PredF F caps w (cellsC x) (p x)) :
  Calls Tryz.prog 169 #[v, .func (.func F) #[] caps] w fun e w' => e = .returned (.bool (xs.any p)) ∧ Kept (fun _ => False) w w' := by
 have H := Lib.hid (indexFunc_C p hrd HF)
 rw [← idxI_any]
 clear hrd HF
 generalize idxI p xs = k at *
 go_enter Tryz.func169, Tryz.ntmps169
 go_wp2_with (go_at_call 128; refine H.out.mono ?_; rintro e1 w1 ⟨rfl, hk1⟩; have HK1 := Lib.hid hk1; clear hk1 H)
 go_ret
 exact ⟨rfl, HK1.out⟩
end Go.Proofs.YtgljdkjepdknnaaGreatDoor

/- DeleteFunc over a queue's entries. (printed by genq.py) -/
namespace Go.Proofs.YtgljdkjepdknnaaGreatDoor
open Go.ChangeShapes Go.WideShapes Go.ChangeAt Go.RowKit
set_option maxRecDepth 100000
set_option linter.unusedSimpArgs false


theorem zone_C : ∀ u ∈ (Value.agg #[.int .i64 0, .int .i64 0, .int .i64 0, .int .i64 0, .bool false, .int .i64 0, .string ⟨#[]⟩, .slice none 0 0, .int .i64 0, .int .i64 0, .bool false, .int .i64 0, .string ⟨#[]⟩, .bool false, .int .i64 0, .string ⟨#[]⟩, .slice none 0 0, .bool false]).cells.toList, u.oneCell' = true := by intro u hu; simp [Value.cells] at hu; rcases hu with rfl | rfl | rfl | rfl | rfl | rfl | rfl | rfl | rfl | rfl | rfl | rfl | rfl | rfl | rfl | rfl | rfl | rfl <;> rfl
theorem zeroV_C (w : World) : (zeroValue tEnC).run Tryz.prog w = .ok (.agg #[.int .i64 0, .int .i64 0, .int .i64 0, .int .i64 0, .bool false, .int .i64 0, .string ⟨#[]⟩, .slice none 0 0, .int .i64 0, .int .i64 0, .bool false, .int .i64 0, .string ⟨#[]⟩, .bool false, .int .i64 0, .string ⟨#[]⟩, .slice none 0 0, .bool false]) w := Tryz.zeroValue118 w
set_option maxHeartbeats 4000000 in
theorem deleteFunc_C {B w : World} {D : PH} {l : List HP} {v : Value} {n : Nat} {xs : List (EntE)} {F : Nat} {caps : Array Value} (p : EntE → Bool) (hn : xs.length = n) (hent : Enters Tryz.prog F) (hs : Sat B D w (ownS tEnC 18 v n (xs.flatMap cellsC) :: l))
  (HF : ∀ x ∈ xs, PredS B D l F caps (cellsC x) (p x)) :
  Calls Tryz.prog 108 #[v, .func (.func F) #[] caps] w fun e w' => ∃ v', e = .returned v' ∧ Sat B D w' (ownS tEnC 18 v' (xs.filter (fun x => !p x)).length ((xs.filter (fun x => !p x)).flatMap cellsC) :: l) := by
 have hle := (hs.own 0 rfl).le
 obtain ⟨ao, cap, rfl, hnc, hcm, _⟩ := (hs.own 0 rfl).rd.2.2
 have hcm' := hcm
 unfold maxLen at hle hcm
 have HCM := Lib.hid hcm'
 have HN := Lib.hid hn
 have HIDX := Lib.hid (indexFunc_C p (by rw [hn]; exact (hs.own 0 rfl).rd) (fun x hx => ⟨hent, fun W hW => HF x hx W [_] (hs.kept hW)⟩))
 have HS := Lib.hid hs
 have HFF := Lib.hid HF
 have HENT := Lib.hid hent
 clear hs HF hn hent hcm'
 by_cases hall : ∀ y ∈ xs, p y = false
 ·have hi := idxI_none hall
  rw [hi] at HIDX
  have hfil : xs.filter (fun x => !p x) = xs := List.filter_eq_self.2 (fun x hx => by simp [hall x hx])
  have HFIL := Lib.hid hfil
  clear hall hi hfil
  go_enter Tryz.func108, Tryz.ntmps108
  go_wp2_with (go_at_call 128; refine HIDX.out.mono ?_; rintro e1 w1 ⟨rfl, hk1⟩; have HS1 := Lib.hid (HS.out.kept hk1); clear hk1 HS HIDX)
  go_ret
  exact ⟨_, rfl, by rw [HFIL.out, HN.out]; exact HS1.out⟩
 have hex : ∃ (m : Nat) (x : EntE), xs[m]? = some x ∧ p x = true ∧ ∀ y ∈ xs.take m, p y = false := by
  cases hf : xs.findIdx? p with
  | none => exact absurd (List.findIdx?_eq_none_iff.1 hf) hall
  | some m =>
   obtain ⟨hlt, h1, h2⟩ := List.findIdx?_eq_some_iff_getElem.1 hf
   refine ⟨m, xs[m], List.getElem?_eq_getElem hlt, h1, fun y hy => ?_⟩
   obtain ⟨i, hi, rfl⟩ := List.mem_take_iff_getElem.1 hy
   have := h2 i (by omega)
   simpa using this
 obtain ⟨m, x0, hx0, hpx0, hbef⟩ := hex
 have hi := idxI_at hbef hx0 hpx0
 rw [hi] at HIDX
 have hm : m < n := by have := (List.getElem?_eq_some_iff.1 hx0).1; rw [HN.out] at this; exact this
 have hfm : (xs.take m).filter (fun x => !p x) = xs.take m := List.filter_eq_self.2 (fun x hx => by simp [hbef x hx])
 have hf0 : (xs.take (m + 1)).filter (fun x => !p x) = xs.take m := by rw [filter_take_no (q := fun x => !p x) hx0 (by simp [hpx0]), hfm]
 have HF0 := Lib.hid hf0
 clear hall hi hbef hx0 hpx0 hfm hf0
 have hw1 : IntKind.i64.wrap ((m : Int) + 1) = (m : Int) + 1 := IntWalk.i64_in _ (by omega)
 have hq1 : ((m : Int) == -1) = false := by simp
 obtain ⟨g, rfl⟩ : ∃ g, ao = some ⟨g, 0, none⟩ := by
  rcases (HS.out.own 0 rfl).2.2 with ⟨h1, h2⟩ | ⟨g, c2, cur, h1, _⟩
  ·omega
  ·cases h1; exact ⟨g, rfl⟩
 go_enter Tryz.func108, Tryz.ntmps108
 go_wp2_with (go_at_call 128; refine HIDX.out.mono ?_; rintro e1 w1 ⟨rfl, hk1⟩; have HS1 := Lib.hid (HS.out.kept hk1); clear hk1 HS HIDX)
 clear hw1 hq1
 go_loopw [5, 6] (fun ki ji wr => ∃ (i j : Nat) (ys : List (EntE)), ki = .int .i64 i ∧ ji = .int .i64 j ∧ i < j ∧ j ≤ n ∧ ys.length = n ∧ ys.take i = (xs.take j).filter (fun x => !p x) ∧ ys.drop j = xs.drop j ∧ Sat B D wr (ownS tEnC 18 (.slice (some ⟨g, 0, none⟩) n cap) n (ys.flatMap cellsC) :: l)) (fun _ ji _ => n - (intOf ji).toNat)
 case atStart => exact ⟨m, m + 1, xs, rfl, by go_num, by omega, by omega, HN.out, HF0.out.symm, rfl, HS1.out⟩
 case round =>
  obtain ⟨i, j, ys, rfl, rfl, hij, hj, hyl, hyt, hyd, hs2⟩ := hrel
  have HYL := Lib.hid hyl
  have HYT := Lib.hid hyt
  have HYD := Lib.hid hyd
  have HS2 := Lib.hid hs2
  clear hyl hyt hyd hs2 HS1
  by_cases hlt : j < n
  ·have hji : (j : Int) < (n : Int) := by omega
   obtain ⟨x, hx⟩ : ∃ x, xs[j]? = some x := ⟨xs[j]'(by rw [HN.out]; exact hlt), List.getElem?_eq_getElem _⟩
   have hyx : ys[j]? = some x := by
    have h1 := congrArg (fun L => L[0]?) HYD.out
    simp only [List.getElem?_drop, Nat.add_zero] at h1
    rw [h1, hx]
   obtain ⟨g', o', hg', hrng⟩ := elem_range lenC (HS2.out.own 0 rfl).rd hyx HYL.out
   obtain ⟨rfl, rfl⟩ : g = g' ∧ 0 = o' := by cases hg'; exact ⟨rfl, rfl⟩
   rw [Nat.zero_add] at hrng
   have HL := Lib.hid (loadC hrng)
   clear hg' hrng hyx
   have HX := Lib.hid hx
   have hmem := List.mem_of_getElem? hx
   have HS3 := Lib.hid (HS2.out.alloc (cellsC x).toArray tEnC)
   clear hx
   go_upto_region 8 with (first | (refine wpList_ld rfl _ _ rfl _ _ rfl _ HL.out ?_) | (refine wpList_store_new rfl _ _ _ rfl (cellsC x) _ _ rfl rfl (by kernel_rfl) rfl (oneC x) ?_))
   clear HL HS2
   obtain ⟨W3, hW3, hs3⟩ := Sat.hide HS3.out
   rw [← hW3]
   clear hW3 HS3
   generalize wr.heap.size = bx at hs3 ⊢
   have HL := Lib.hid (loadC (blk_range (hs3.blk 0 rfl)))
   have HC := Lib.hid (HFF.out x hmem W3 [_, _] hs3)
   have HS3 := Lib.hid hs3
   clear hs3 hmem
   have hent := HENT.out
   unfold Enters at hent
   cases hpx : p x
   ·rw [hpx] at HC
    have HPX := Lib.hid (filter_take_yes (q := fun x => !p x) HX.out (by simp [hpx]))
    clear hpx
    have hw2 : IntKind.i64.wrap ((i : Int) + 1) = (i : Int) + 1 := IntWalk.i64_in _ (by omega)
    have hin : i < n := by omega
    go_upto_region 9 with (first | (refine wpList_ld rfl _ _ rfl _ _ rfl _ HL.out ?_) | (refine HC.out.mono ?_; rintro e1 w1 ⟨rfl, hk1⟩; have HS4 := Lib.hid (HS3.out.kept hk1); clear hk1 HC HL HS3))
    clear hent
    have HL := Lib.hid (loadC (blk_range (HS4.out.blk 0 rfl)))
    go_wp2_with (first | (refine wpList_ld rfl _ _ rfl _ _ rfl _ HL.out ?_) | (refine wpList_store_elem lenC oneC rfl _ _ _ rfl tEnC g _ i n cap rfl (by omega) x rfl ys HS4.out.swap (by kernel_rfl) hin HYL.out ?_; intro w5 hs5; have HS5 := Lib.hid hs5; clear hs5 HS4 HL))
    go_roundw
    case rel =>
     refine ⟨i + 1, j + 1, ys.set i x, by go_num, by go_num, by omega, by omega, by rw [List.length_set]; exact HYL.out, ?_, ?_, HS5.out.swap.drop⟩
     ·rw [HPX.out, ← HYT.out, take_set_succ (by rw [HYL.out]; exact hin)]
     ·rw [List.drop_set, if_pos (by omega), ← List.drop_drop, HYD.out, List.drop_drop]
    case measure => simp [intOf]; omega
   ·rw [hpx] at HC
    have HPX := Lib.hid (filter_take_no (q := fun x => !p x) HX.out (by simp [hpx]))
    clear hpx
    go_wp2_with (first | (refine wpList_ld rfl _ _ rfl _ _ rfl _ HL.out ?_) | (refine HC.out.mono ?_; rintro e1 w1 ⟨rfl, hk1⟩; have HS4 := Lib.hid (HS3.out.kept hk1); clear hk1 HC HL HS3))
    clear hent
    go_roundw
    case rel => exact ⟨i, j + 1, ys, rfl, by go_num, by omega, by omega, HYL.out, by rw [HPX.out, HYT.out], by rw [← List.drop_drop, HYD.out, List.drop_drop], HS4.out.drop⟩
    case measure => simp [intOf]; omega
  ·have hji : ¬ ((j : Int) < (n : Int)) := by omega
   have hin : i < n := by omega
   have hb0 : (i : Int) ≤ (n : Int) := by omega
   have hb1 : (n : Int) ≤ (cap : Int) := by omega
   have hb2 : (i : Int) ≤ (cap : Int) := by omega
   have hb3 : i < cap := by omega
   have hb4 : ¬ (cap = i) := by omega
   have hfin : ys.take i = xs.filter (fun x => !p x) := by rw [HYT.out, List.take_of_length_le (by rw [HN.out]; omega)]
   have HFIN := Lib.hid hfin
   have HLEN := Lib.hid (show (xs.filter (fun x => !p x)).length = i by rw [← hfin, List.length_take, HYL.out]; omega)
   obtain ⟨cur, h4, _, _, hcz, hct, _, _⟩ := HS2.out.own_row
   have H4 := Lib.hid h4
   have HCT := Lib.hid hct
   have HONE := Lib.hid (HS2.out.own 0 rfl).2.1
   clear h4 hct HS2 hfin
   go_wp2_with (show wpList _ _ _ (⟨none, .call _, _, _, _, _⟩ :: _) _ _; refine wpList_clear_Sat _ rfl _ 108 rfl tEnC _ Tryz.underlying108 zeroV_C g _ (n - i) _ rfl cur H4.out (by omega) (by simp [size_zeroCells, Value.cells]; omega) (zeroCells_mem zone_C _) ?_; intro w5 h5; have H5 := Lib.hid h5; clear h5)
   go_ret
   refine ⟨_, rfl, ?_⟩
   rw [HLEN.out]
   refine H5.out.row_own (by omega) HCM.out (by rw [lay_len _ _ _ (by simp [size_zeroCells, Value.cells]; omega)]; exact hcz) ?_ ?_
   ·unfold lay
    rw [List.append_assoc, List.take_append_of_le_length (by rw [List.length_take]; omega), List.take_of_length_le (by rw [List.length_take]; omega), ← HFIN.out, ← flat_take lenC, ← HCT.out, List.take_take]
    congr 1
    omega
   ·intro u hu
    rw [← HFIN.out, ← flat_take lenC] at hu
    exact HONE.out u (List.mem_of_mem_take hu)
end Go.Proofs.YtgljdkjepdknnaaGreatDoor

/- The queue's functions of entries: whose an entry is. (printed by genq.py) -/
namespace Go.Proofs.YtgljdkjepdknnaaGreatDoor
open Go.ChangeShapes Go.WideShapes Go.ChangeAt Go.RowKit
set_option maxRecDepth 100000
set_option linter.unusedSimpArgs false


set_option maxHeartbeats 1000000 in
theorem waitF_C {w : World} {b : Nat} {o : Int} (hb : w.heap[b]? = some (.cells #[.int .i64 o] 3 (0, 0))) (x : EntE) : PredF 129 #[.pointer (some ⟨b, 0, none⟩)] w (cellsC x) (ofE o (entC x)) := by
 refine ⟨enters_of Tryz.func129 (by kernel_rfl) rfl, fun W hW => ?_⟩
 obtain ⟨W1, hW1, hk1, hbx, hb1⟩ := two_blocks (kept_blk hW hb) (cellsC x).toArray tEnC
 have HW1 := Lib.hid hW1
 have HK1 := Lib.hid hk1
 have HBX := Lib.hid hbx
 obtain ⟨c0, _⟩ := cells1 hb1
 clear hb hW hW1 hk1 hbx hb1
 show Calls Tryz.prog 129 #[.agg (cellsC x).toArray, .pointer (some ⟨b, 0, none⟩)] W _
 by_cases ho : x.o = o
 ·have HO := Lib.hid (show ofE o (entC x) = true by unfold ofE; simp [ho])
  go_enter Tryz.func129, Tryz.ntmps129
  go_upto_region 1 with fail
  rw [← HW1.out]
  clear HW1
  generalize W.heap.size = bx at HBX ⊢
  have x0 := (boxC HBX.out).1
  rw [ho] at x0
  clear ho
  go_wp2_with fail
  go_ret
  exact ⟨by rw [HO.out]; simp, HK1.out⟩
 ·have HO := Lib.hid (show ofE o (entC x) = false by unfold ofE; simp [ho])
  have hne : (x.o == o) = false := by simpa using ho
  go_enter Tryz.func129, Tryz.ntmps129
  go_upto_region 1 with fail
  rw [← HW1.out]
  clear HW1
  generalize W.heap.size = bx at HBX ⊢
  have x0 := (boxC HBX.out).1
  clear ho
  go_wp2_with fail
  go_ret
  exact ⟨by rw [HO.out]; rfl, HK1.out⟩
set_option maxHeartbeats 1000000 in
theorem clearF_C {w : World} {b : Nat} {o : Int} (hb : w.heap[b]? = some (.cells #[.int .i64 o] 3 (0, 0))) (x : EntE) : PredF 112 #[.pointer (some ⟨b, 0, none⟩)] w (cellsC x) (ofE o (entC x)) := by
 refine ⟨enters_of Tryz.func112 (by kernel_rfl) rfl, fun W hW => ?_⟩
 obtain ⟨W1, hW1, hk1, hbx, hb1⟩ := two_blocks (kept_blk hW hb) (cellsC x).toArray tEnC
 have HW1 := Lib.hid hW1
 have HK1 := Lib.hid hk1
 have HBX := Lib.hid hbx
 obtain ⟨c0, _⟩ := cells1 hb1
 clear hb hW hW1 hk1 hbx hb1
 show Calls Tryz.prog 112 #[.agg (cellsC x).toArray, .pointer (some ⟨b, 0, none⟩)] W _
 by_cases ho : x.o = o
 ·have HO := Lib.hid (show ofE o (entC x) = true by unfold ofE; simp [ho])
  go_enter Tryz.func112, Tryz.ntmps112
  go_upto_region 1 with fail
  rw [← HW1.out]
  clear HW1
  generalize W.heap.size = bx at HBX ⊢
  have x0 := (boxC HBX.out).1
  rw [ho] at x0
  clear ho
  go_wp2_with fail
  go_ret
  exact ⟨by rw [HO.out]; simp, HK1.out⟩
 ·have HO := Lib.hid (show ofE o (entC x) = false by unfold ofE; simp [ho])
  have hne : (x.o == o) = false := by simpa using ho
  go_enter Tryz.func112, Tryz.ntmps112
  go_upto_region 1 with fail
  rw [← HW1.out]
  clear HW1
  generalize W.heap.size = bx at HBX ⊢
  have x0 := (boxC HBX.out).1
  clear ho
  go_wp2_with fail
  go_ret
  exact ⟨by rw [HO.out]; rfl, HK1.out⟩
set_option maxHeartbeats 1000000 in
theorem leaveF_C {w : World} {b : Nat} {o : Int} (hb : w.heap[b]? = some (.cells #[.int .i64 o] 3 (0, 0))) (x : EntE) : PredF 109 #[.pointer (some ⟨b, 0, none⟩)] w (cellsC x) (ofE o (entC x)) := by
 refine ⟨enters_of Tryz.func109 (by kernel_rfl) rfl, fun W hW => ?_⟩
 obtain ⟨W1, hW1, hk1, hbx, hb1⟩ := two_blocks (kept_blk hW hb) (cellsC x).toArray tEnC
 have HW1 := Lib.hid hW1
 have HK1 := Lib.hid hk1
 have HBX := Lib.hid hbx
 obtain ⟨c0, _⟩ := cells1 hb1
 clear hb hW hW1 hk1 hbx hb1
 show Calls Tryz.prog 109 #[.agg (cellsC x).toArray, .pointer (some ⟨b, 0, none⟩)] W _
 by_cases ho : x.o = o
 ·have HO := Lib.hid (show ofE o (entC x) = true by unfold ofE; simp [ho])
  go_enter Tryz.func109, Tryz.ntmps109
  go_upto_region 1 with fail
  rw [← HW1.out]
  clear HW1
  generalize W.heap.size = bx at HBX ⊢
  have x0 := (boxC HBX.out).1
  rw [ho] at x0
  clear ho
  go_wp2_with fail
  go_ret
  exact ⟨by rw [HO.out]; simp, HK1.out⟩
 ·have HO := Lib.hid (show ofE o (entC x) = false by unfold ofE; simp [ho])
  have hne : (x.o == o) = false := by simpa using ho
  go_enter Tryz.func109, Tryz.ntmps109
  go_upto_region 1 with fail
  rw [← HW1.out]
  clear HW1
  generalize W.heap.size = bx at HBX ⊢
  have x0 := (boxC HBX.out).1
  clear ho
  go_wp2_with fail
  go_ret
  exact ⟨by rw [HO.out]; rfl, HK1.out⟩
end Go.Proofs.YtgljdkjepdknnaaGreatDoor

/- A queue in memory; who waits. (printed by genq.py) -/
namespace Go.Proofs.YtgljdkjepdknnaaGreatDoor
open Go.ChangeShapes Go.WideShapes Go.ChangeAt Go.RowKit
set_option maxRecDepth 100000
set_option linter.unusedSimpArgs false


def RepC (D : PH) (hs : List (EntE)) (L : List (Ent Clm)) : Prop := hs.map entC = L ∧ ∀ x ∈ hs, OkC D x
abbrev entsC (v : Value) (hs : List (EntE)) : HP := ownS tEnC 18 v hs.length (hs.flatMap cellsC)
abbrev qbC (q : Nat) (hv wv : Value) : HP := blk q #[.func (.func 74) #[] #[], .func (.func 75) #[] #[], .func (.func 76) #[] #[], .func (.func 77) #[] #[], hv, wv] tQC
/-- a queue in memory -/
def queC (D : PH) (q : Nat) (Q : Qm Clm) : HP := exP (fun x : (Value × Value) × (List (EntE) × List (EntE)) => RepC D x.2.1 Q.held ∧ RepC D x.2.2 Q.waits) (fun x => [qbC q x.1.1 x.1.2, entsC x.1.1 x.2.1, entsC x.1.2 x.2.2])
theorem queOpen_C {B w : World} {D D' : PH} {l : List HP} {q : Nat} {Q : Qm Clm} (h : Sat B D w (queC D' q Q :: l)) : ∃ (hv wv : Value) (hs ws : List (EntE)), RepC D' hs Q.held ∧ RepC D' ws Q.waits ∧ Sat B D w (qbC q hv wv :: entsC hv hs :: entsC wv ws :: l) := by
 obtain ⟨⟨⟨hv, wv⟩, hs, ws⟩, ⟨h1, h2⟩, h3⟩ := Sat.open_ex h
 exact ⟨hv, wv, hs, ws, h1, h2, h3⟩
theorem queShut_C {B w : World} {D D' : PH} {l : List HP} {q : Nat} {Q : Qm Clm} {hv wv : Value} {hs ws : List (EntE)} (h1 : RepC D' hs Q.held) (h2 : RepC D' ws Q.waits) (h : Sat B D w (qbC q hv wv :: entsC hv hs :: entsC wv ws :: l)) : Sat B D w (queC D' q Q :: l) :=
 Sat.close_ex ((hv, wv), hs, ws) ⟨h1, h2⟩ h
theorem idx_map_C (p : Ent Clm → Bool) (hs : List (EntE)) : idxI (fun x => p (entC x)) hs = idxI p (hs.map entC) := by
 unfold idxI
 rw [List.findIdx?_map]
 rfl
theorem any_map_C (p : Ent Clm → Bool) (hs : List (EntE)) : hs.any (fun x => p (entC x)) = (hs.map entC).any p := by rw [List.any_map]; rfl
set_option maxHeartbeats 1000000 in
theorem waiting_C {B w : World} {D D' : PH} {l : List HP} {q : Nat} {Q : Qm Clm} (o : Int) (h : Sat B D w (queC D' q Q :: l)) :
  Calls Tryz.prog 82 #[.pointer (some ⟨q, 0, none⟩), .int .i64 o] w fun e w' => e = .returned (.int .i64 (idxI (ofE o) Q.waits)) ∧ Kept (fun _ => False) w w' := by
 obtain ⟨hv, wv, hs, ws, hr1, hr2, h1⟩ := queOpen_C h
 obtain ⟨W1, hW1, hk1, hbx, hq1⟩ := two_blocks (h1.blk 0 rfl) #[.int .i64 o] 3
 have HI := Lib.hid (indexFunc_C (fun x => ofE o (entC x)) ((h1.own 2 rfl).rd.kept hk1 (fun _ _ h => h)) (fun x _ => waitF_C hbx x))
 rw [idx_map_C (ofE o), hr2.1] at HI
 have HW1 := Lib.hid hW1
 have HK1 := Lib.hid hk1
 have HQ1 := Lib.hid hq1
 clear h h1 hr1 hr2 hW1 hk1 hbx hq1
 generalize idxI (ofE o) Q.waits = k at *
 go_enter Tryz.func82, Tryz.ntmps82
 go_upto_region 1 with fail
 rw [← HW1.out]
 clear HW1
 generalize w.heap.size = bx at HI ⊢
 obtain ⟨c0, c1, c2, c3, c4, c5, cf⟩ := cells6 HQ1.out
 go_wp2_with (go_at_call 128; refine HI.out.mono ?_; rintro e1 w1 ⟨rfl, hk2⟩; have HK2 := Lib.hid (HK1.out.trans hk2 (fun _ h => h.elim)); clear hk2 HI c0 c1 c2 c3 c4 c5 cf)
 go_ret
 exact ⟨rfl, HK2.out⟩
end Go.Proofs.YtgljdkjepdknnaaGreatDoor

/- IndexFunc, ContainsFunc over claims. (printed by genq.py) -/
namespace Go.Proofs.YtgljdkjepdknnaaGreatDoor
open Go.ChangeShapes Go.WideShapes Go.ChangeAt Go.RowKit
set_option maxRecDepth 100000
set_option linter.unusedSimpArgs false


set_option maxHeartbeats 1000000 in
theorem indexFunc_Cl {w : World} {v : Value} {xs : List (ClmE)} {F : Nat} {caps : Array Value} (p : ClmE → Bool) (hrd : Rd w 16 v xs.length (xs.flatMap ClmE.cells)) (HF : ∀ x ∈ xs, PredF F caps w (ClmE.cells x) (p x)) :
  Calls Tryz.prog 130 #[v, .func (.func F) #[] caps] w fun e w' => e = .returned (.int .i64 (idxI p xs)) ∧ Kept (fun _ => False) w w' := by
 obtain ⟨_, hml, ao, cap, rfl, hnc, hcm, _⟩ := id hrd
 unfold maxLen at hml hcm
 have HRD := Lib.hid hrd
 have HFF := Lib.hid HF
 clear hrd HF
 obtain ⟨N, hN⟩ : ∃ N, xs.length = N := ⟨_, rfl⟩
 have HN := Lib.hid hN
 rw [hN] at HRD hml hnc ⊢
 clear hN
 go_enter Tryz.func130, Tryz.ntmps130
 go_wp2_with fail
 go_loopw [8] (fun i wr => ∃ j : Nat, i = .int .i64 j ∧ j ≤ N ∧ (∀ x ∈ xs.take j, p x = false) ∧ Kept (fun _ => False) w wr) (fun i _ => N - (intOf i).toNat)
 case atStart => exact ⟨0, rfl, by omega, fun x hx => by simp at hx, Kept.refl _ _⟩
 case round =>
  obtain ⟨j, rfl, hj, hp, hk⟩ := hrel
  have HP := Lib.hid hp
  have HK := Lib.hid hk
  clear hp hk
  by_cases hlt : j < N
  ·have hi : (j : Int) < (N : Int) := by omega
   obtain ⟨x, hx⟩ : ∃ x, xs[j]? = some x := ⟨xs[j]'(by rw [HN.out]; exact hlt), List.getElem?_eq_getElem _⟩
   obtain ⟨g, o, rfl, hrng⟩ := elem_range ClmE.len (HRD.out.kept HK.out (fun _ _ h => h)) hx HN.out
   have HL := Lib.hid (loadCl hrng)
   have HX := Lib.hid hx
   obtain ⟨hent, hcall⟩ := HFF.out x (List.mem_of_getElem? hx)
   unfold Enters at hent
   have HC := Lib.hid (hcall wr HK.out)
   clear hx hrng hcall
   cases hpx : p x
   ·rw [hpx] at HC
    have HPX := Lib.hid hpx
    clear hpx
    go_wp2_with (first | (refine wpList_ld rfl _ _ rfl _ _ rfl _ HL.out ?_) | (refine HC.out.mono ?_; rintro e1 w1 ⟨rfl, hk1⟩; have HK1 := Lib.hid (HK.out.trans hk1 (fun _ h => h.elim)); clear hk1 HC HL))
    go_roundw
    case rel => exact ⟨j + 1, by go_num, by omega, mem_take_succ HP.out HX.out HPX.out, HK1.out⟩
    case measure => simp [intOf]; omega
   ·rw [hpx] at HC
    have HPX := Lib.hid hpx
    clear hpx
    go_wp2_with (first | (refine wpList_ld rfl _ _ rfl _ _ rfl _ HL.out ?_) | (refine HC.out.mono ?_; rintro e1 w1 ⟨rfl, hk1⟩; have HK1 := Lib.hid (HK.out.trans hk1 (fun _ h => h.elim)); clear hk1 HC HL))
    go_ret
    exact ⟨by rw [idxI_at HP.out HX.out HPX.out]; rfl, HK1.out⟩
  ·have hi : ¬ ((j : Int) < (N : Int)) := by omega
   have he : idxI p xs = -1 := idxI_none (by have := HP.out; rwa [List.take_of_length_le (by rw [HN.out]; omega)] at this)
   have HE := Lib.hid he
   clear he
   go_wp2_with fail
   go_ret
   exact ⟨by rw [HE.out]; rfl, HK.out⟩
set_option maxHeartbeats 1000000 in
theorem containsFunc_Cl {w : World} {v : Value} {xs : List (ClmE)} {F : Nat} {caps : Array Value} (p : ClmE → Bool) (hrd : Rd w 16 v xs.length (xs.flatMap ClmE.cells)) (HF : ∀ x ∈ xs, PredF F caps w (ClmE.cells x) (p x)) :
  Calls Tryz.prog 83 #[v, .func (.func F) #[] caps] w fun e w' => e = .returned (.bool (xs.any p)) ∧ Kept (fun _ => False) w w' := by
 have H := Lib.hid (indexFunc_Cl p hrd HF)
 rw [← idxI_any]
 clear hrd HF
 generalize idxI p xs = k at *
 go_enter Tryz.func83, Tryz.ntmps83
 go_wp2_with (go_at_call 130; refine H.out.mono ?_; rintro e1 w1 ⟨rfl, hk1⟩; have HK1 := Lib.hid hk1; clear hk1 H)
 go_ret
 exact ⟨rfl, HK1.out⟩
end Go.Proofs.YtgljdkjepdknnaaGreatDoor
