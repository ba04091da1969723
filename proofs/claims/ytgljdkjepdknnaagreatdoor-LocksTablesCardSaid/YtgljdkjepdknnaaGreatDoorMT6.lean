/- Joined texts: Predicates, claims, entries of a queue of claims in memory. (printed by genq.py) IndexFunc, ContainsFunc over a queue's entries. (printed by genq.py) DeleteFunc over a queue's entries. (printed by genq.py) The queue's functions of entries: whose an entry is. (printed by genq.py) A queue in memory; who waits. (printed by genq.py) IndexFunc, ContainsFunc over claims. (printed by genq.py) -/
import Derived.Test.YtgljdkjepdknnaaGreatDoorMT2
set_option maxHeartbeats 64000000
namespace Go.Proofs.YtgljdkjepdknnaaGreatDoor
open Go.ChangeShapes Go.WideShapes Go.ChangeAt Go.RowKit
set_option maxRecDepth 100000
set_option linter.unusedSimpArgs false
abbrev bg : TypeId := 118
abbrev tQC : TypeId := 110
abbrev tCl : TypeId := 37
abbrev tPr : TypeId := 35
structure PredE where
 op : Int
 col : Int
 v : Val
 w : Val
 la : Option Addr
 ln : Nat
 lc : Nat
 subs : List PredT
def PredE.cells (x : PredE) : List Value := [.int .i64 x.op, .int .i64 x.col, .bool x.v.t, .int .i64 x.v.n, .string x.v.s, .bool x.w.t, .int .i64 x.w.n, .string x.w.s, .slice x.la x.ln x.lc]
def PredE.p (x : PredE) : PredT := .mk x.op x.col x.v x.w x.subs
theorem PredE.len (x : PredE) : x.cells.length = 9 := rfl
theorem PredE.one (x : PredE) : ∀ u ∈ x.cells, u.oneCell' = true := by intro u hu; simp [PredE.cells] at hu; rcases hu with rfl | rfl | rfl | rfl | rfl | rfl | rfl | rfl | rfl <;> rfl
inductive PredsAt (D : PH) : Value → List PredT → Prop where
 | mk (v : Value) (es : List PredE) (h : RdP D 9 v es.length (es.flatMap PredE.cells)) (hs : ∀ e ∈ es, PredsAt D (.slice e.la e.ln e.lc) e.subs) : PredsAt D v (es.map PredE.p)
inductive PredsRd (w : World) : Value → List PredT → Prop where
 | mk (v : Value) (es : List PredE) (h : Rd w 9 v es.length (es.flatMap PredE.cells)) (hs : ∀ e ∈ es, PredsRd w (.slice e.la e.ln e.lc) e.subs) : PredsRd w v (es.map PredE.p)
theorem PredsAt.mono {D D' : PH} (le : PH.le D D') {v : Value} {l : List PredT} (h : PredsAt D v l) : PredsAt D' v l := by
 induction h with
 | mk v es h _ ih => exact .mk v es (h.mono le) ih
theorem PredsAt.rd {B w : World} {D : PH} {l' : List HP} (hs : Sat B D w l') {v : Value} {l : List PredT} (h : PredsAt D v l) : PredsRd w v l := by
 induction h with
 | mk v es h _ ih => exact .mk v es (h.rd hs) ih
theorem PredsRd.kept {w w' : World} (k : Kept (fun _ => False) w w') {v : Value} {l : List PredT} (h : PredsRd w v l) : PredsRd w' v l := by
 induction h with
 | mk v es h _ ih => exact .mk v es (h.kept k (fun _ _ h => h)) ih
abbrev cO (w : World) (v : Value) (r : List Val) : Prop := Rd w 3 v r.length (r.flatMap Val.cells)
abbrev RowD (D : PH) (v : Value) (r : List Val) : Prop := RdP D 3 v r.length (r.flatMap Val.cells)
def RowsAt (D : PH) (v : Value) (rs : List (List Val)) : Prop := ∃ hs : List Value, hs.length = rs.length ∧ (∀ u ∈ hs, u.oneCell' = true) ∧ RdP D 1 v rs.length hs ∧ ∀ (i : Nat) (h : Value) (r : List Val), hs[i]? = some h → rs[i]? = some r → RowD D h r
def RowsRd (w : World) (v : Value) (rs : List (List Val)) : Prop := ∃ hs : List Value, hs.length = rs.length ∧ Rd w 1 v rs.length hs ∧ ∀ (i : Nat) (h : Value) (r : List Val), hs[i]? = some h → rs[i]? = some r → cO w h r
theorem RowsAt.mono {D D' : PH} (le : PH.le D D') {v : Value} {rs : List (List Val)} (h : RowsAt D v rs) : RowsAt D' v rs := by
 obtain ⟨hs, h1, h2, h3, h4⟩ := h
 exact ⟨hs, h1, h2, h3.mono le, fun i u r a b => (h4 i u r a b).mono le⟩
theorem RowsAt.rd {B w : World} {D : PH} {l : List HP} (hs : Sat B D w l) {v : Value} {rs : List (List Val)} (h : RowsAt D v rs) : RowsRd w v rs := by
 obtain ⟨us, h1, h2, h3, h4⟩ := h
 exact ⟨us, h1, h3.rd hs, fun i u r a b => (h4 i u r a b).rd hs⟩
theorem RowsRd.kept {w w' : World} (k : Kept (fun _ => False) w w') {v : Value} {rs : List (List Val)} (h : RowsRd w v rs) : RowsRd w' v rs := by
 obtain ⟨hs, h1, h2, h3⟩ := h
 exact ⟨hs, h1, h2.kept k (fun _ _ h => h), fun i u r a b => (h3 i u r a b).kept k (fun _ _ h => h)⟩
structure ClmE where
 kind : Int
 table : Int
 mode : Int
 key : Val
 ia : Option Addr
 il : Nat
 ic : Nat
 imgs : List (List Val)
 pr : PredE
def ClmE.cells (x : ClmE) : List Value := [.int .i64 x.kind, .int .i64 x.table, .int .i64 x.mode, .bool x.key.t, .int .i64 x.key.n, .string x.key.s, .slice x.ia x.il x.ic, .int .i64 x.pr.op, .int .i64 x.pr.col, .bool x.pr.v.t, .int .i64 x.pr.v.n, .string x.pr.v.s, .bool x.pr.w.t, .int .i64 x.pr.w.n, .string x.pr.w.s, .slice x.pr.la x.pr.ln x.pr.lc]
def ClmE.c (x : ClmE) : Clm := ⟨x.kind, x.table, x.mode, x.key, x.imgs, x.pr.p⟩
theorem ClmE.len (x : ClmE) : x.cells.length = 16 := rfl
theorem ClmE.one (x : ClmE) : ∀ u ∈ x.cells, u.oneCell' = true := by intro u hu; simp [ClmE.cells] at hu; rcases hu with rfl | rfl | rfl | rfl | rfl | rfl | rfl | rfl | rfl | rfl | rfl | rfl | rfl | rfl | rfl | rfl <;> rfl
def ClOk (D : PH) (x : ClmE) : Prop := RowsAt D (.slice x.ia x.il x.ic) x.imgs ∧ PredsAt D (.slice x.pr.la x.pr.ln x.pr.lc) x.pr.subs
def RdCl (w : World) (x : ClmE) : Prop := RowsRd w (.slice x.ia x.il x.ic) x.imgs ∧ PredsRd w (.slice x.pr.la x.pr.ln x.pr.lc) x.pr.subs
theorem ClOk.mono {D D' : PH} {x : ClmE} (h : ClOk D x) (le : PH.le D D') : ClOk D' x := ⟨h.1.mono le, h.2.mono le⟩
theorem ClOk.rd {B w : World} {D : PH} {l : List HP} {x : ClmE} (h : ClOk D x) (hs : Sat B D w l) : RdCl w x := ⟨h.1.rd hs, h.2.rd hs⟩
theorem RdCl.kept {w w' : World} {x : ClmE} (h : RdCl w x) (k : Kept (fun _ => False) w w') : RdCl w' x := ⟨h.1.kept k, h.2.kept k⟩
theorem RdCl.drew {w : World} {x : ClmE} (h : RdCl w x) : RdCl w.drew x := h.kept ((Kept.refl _ _).drew)
@[go_sem] theorem sizeCl (x : ClmE) : x.cells.toArray.size = 16 := rfl
theorem ay {w : World} {g o : Nat} {x : ClmE} (h : w.rangeAt g o x.cells) : (loadVar tCl ⟨g, o, none⟩).run Tryz.prog w = .ok (.agg x.cells.toArray) w := run_loadVar_mid w g o _ _ _ h Tryz.underlying37 rfl (by kernel_rfl)
abbrev cvC (x : ClmE) : Value := .agg x.cells.toArray
abbrev ccC (x : ClmE) : Array Value := x.cells.toArray
abbrev cdC (x : ClmE) : Clm := x.c
structure EntE where
 o : Int
 x : ClmE
 more : Bool
def au (e : EntE) : List Value := [.int .i64 e.o, .int .i64 e.x.kind, .int .i64 e.x.table, .int .i64 e.x.mode, .bool e.x.key.t, .int .i64 e.x.key.n, .string e.x.key.s, .slice e.x.ia e.x.il e.x.ic, .int .i64 e.x.pr.op, .int .i64 e.x.pr.col, .bool e.x.pr.v.t, .int .i64 e.x.pr.v.n, .string e.x.pr.v.s, .bool e.x.pr.w.t, .int .i64 e.x.pr.w.n, .string e.x.pr.w.s, .slice e.x.pr.la e.x.pr.ln e.x.pr.lc, .bool e.more]
abbrev aG (e : EntE) : Ent Clm := ⟨e.o, e.x.c, e.more⟩
abbrev OkC (D : PH) (e : EntE) : Prop := ClOk D e.x
theorem bM (e : EntE) : (au e).length = 18 := rfl
theorem eA (e : EntE) : ∀ u ∈ au e, u.oneCell' = true := by intro u hu; simp [au] at hu; rcases hu with rfl | rfl | rfl | rfl | rfl | rfl | rfl | rfl | rfl | rfl | rfl | rfl | rfl | rfl | rfl | rfl | rfl | rfl <;> rfl
abbrev mkC (o : Int) (x : ClmE) (b : Bool) : EntE := ⟨o, x, b⟩
abbrev cE (e : EntE) : EntE := ⟨e.o, e.x, false⟩
theorem qJ (e : EntE) : (au e).set 17 (.bool false) = au (cE e) := rfl
theorem moreC {w : World} {g o : Nat} {e : EntE} (h : w.rangeAt g o (au e)) : w.cell? ⟨g, o + 17, none⟩ = some (.bool e.more) := h 17 _ rfl
@[go_sem] theorem sizeC (e : EntE) : (au e).toArray.size = 18 := rfl
theorem dk {w : World} {g o : Nat} {e : EntE} (h : w.rangeAt g o (au e)) : (loadVar bg ⟨g, o, none⟩).run Tryz.prog w = .ok (.agg (au e).toArray) w := run_loadVar_mid w g o _ _ _ h Tryz.underlying118 rfl (by kernel_rfl)
theorem d5 {w : World} {b : Nat} {e : EntE} {t : TypeId} {fr : Nat × Nat} (h : w.heap[b]? = some (.cells (au e).toArray t fr)) : w.cell? ⟨b, 0, none⟩ = some (.int .i64 e.o) ∧ w.cell? ⟨b, 17, none⟩ = some (.bool e.more) := by
 refine ⟨?_, ?_⟩ <;> simp [World.cell?, h, au]
theorem dR {w : World} {b : Nat} {e : EntE} {t : TypeId} {fr : Nat × Nat} (h : w.heap[b]? = some (.cells (au e).toArray t fr)) : w.rangeAt b 1 e.x.cells := fun j v hv => by
 rw [cell_of_row w b (1 + j) _ t fr h]
 have hj : j < 16 := by have := (List.getElem?_eq_some_iff.1 hv).1; rwa [ClmE.len] at this
 rw [← hv]
 rw [show 1 + j = j + 1 by omega]
 simp only [List.getElem?_toArray, au, List.getElem?_cons_succ]
 show (e.x.cells ++ [.bool e.more])[j]? = _
 rw [List.getElem?_append_left (by rw [ClmE.len]; exact hj)]
noncomputable def RC : Rul Clm := ⟨cz, fQ, oI, dp⟩
theorem fg {w : World} {v : Value} {xs : List (EntE)} {F : Nat} {caps : Array Value} (p : EntE → Bool) (hrd : Rd w 18 v xs.length (xs.flatMap au)) (HF : ∀ x ∈ xs, PredF F caps w (au x) (p x)) :
  Calls Tryz.prog 128 #[v, .func (.func F) #[] caps] w fun e w' => e = .returned (.int .i64 (cl p xs)) ∧ Kept (fun _ => False) w w' := by
 obtain ⟨_, hml, ao, cap, rfl, hnc, hcm, _⟩ := id hrd
 unfold maxLen at hml hcm
 have s5 := BO hrd
 have t7 := BO HF
 clear hrd HF
 obtain ⟨N, hN⟩ : ∃ N, xs.length = N := ⟨_, rfl⟩
 have HN := BO hN
 rw [hN] at s5 hml hnc ⊢
 clear hN
 go_enter Tryz.func128, Tryz.ntmps128
 go_wp2_with fail
 go_loopw [8] (fun i wr => ∃ j : Nat, i = .int .i64 j ∧ j ≤ N ∧ (∀ x ∈ xs.take j, p x = false) ∧ Kept (fun _ => False) w wr) (fun i _ => N - (intOf i).toNat)
 case atStart => exact ⟨0, rfl, by omega, fun x hx => by simp at hx, Kept.refl _ _⟩
 case round =>
  obtain ⟨j, rfl, hj, hp, hk⟩ := hrel
  have HP := BO hp
  have HK := BO hk
  clear hp hk
  by_cases hlt : j < N
  ·have hi : (j : Int) < (N : Int) := by omega
   obtain ⟨x, hx⟩ : ∃ x, xs[j]? = some x := ⟨xs[j]'(by rw [HN.out]; exact hlt), List.getElem?_eq_getElem _⟩
   obtain ⟨g, o, rfl, hrng⟩ := aD bM (s5.out.kept HK.out (fun _ _ h => h)) hx HN.out
   have HL := BO (dk hrng)
   have HX := BO hx
   obtain ⟨hent, hcall⟩ := t7.out x (List.mem_of_getElem? hx)
   unfold Enters at hent
   have HC := BO (hcall wr HK.out)
   clear hx hrng hcall
   cases hpx : p x
   ·rw [hpx] at HC
    have up := BO hpx
    clear hpx
    go_wp2_with (first | (refine ag rfl _ _ rfl _ _ rfl _ HL.out ?_) | (refine HC.out.mono ?_; rintro e1 w1 ⟨rfl, hk1⟩; have sW := BO (HK.out.trans hk1 (fun _ h => h.elim)); clear hk1 HC HL))
    go_roundw
    case rel => exact ⟨j + 1, by go_num, by omega, cN HP.out HX.out up.out, sW.out⟩
    case measure => simp [intOf]; omega
   ·rw [hpx] at HC
    have up := BO hpx
    clear hpx
    go_wp2_with (first | (refine ag rfl _ _ rfl _ _ rfl _ HL.out ?_) | (refine HC.out.mono ?_; rintro e1 w1 ⟨rfl, hk1⟩; have sW := BO (HK.out.trans hk1 (fun _ h => h.elim)); clear hk1 HC HL))
    go_ret
    exact ⟨by rw [eN HP.out HX.out up.out]; rfl, sW.out⟩
  ·have hi : ¬ ((j : Int) < (N : Int)) := by omega
   have he : cl p xs = -1 := dt (by have := HP.out; rwa [List.take_of_length_le (by rw [HN.out]; omega)] at this)
   have HE := BO he
   clear he
   go_wp2_with fail
   go_ret
   exact ⟨by rw [HE.out]; rfl, HK.out⟩
theorem gp {w : World} {v : Value} {xs : List (EntE)} {F : Nat} {caps : Array Value} (p : EntE → Bool) (hrd : Rd w 18 v xs.length (xs.flatMap au)) (HF : ∀ x ∈ xs, PredF F caps w (au x) (p x)) :
  Calls Tryz.prog 169 #[v, .func (.func F) #[] caps] w fun e w' => e = .returned (.bool (xs.any p)) ∧ Kept (fun _ => False) w w' := by
 have H := BO (fg p hrd HF)
 rw [← ib]
 clear hrd HF
 generalize cl p xs = k at *
 go_enter Tryz.func169, Tryz.ntmps169
 go_wp2_with (go_at_call 128; refine H.out.mono ?_; rintro e1 w1 ⟨rfl, hk1⟩; have sW := BO hk1; clear hk1 H)
 go_ret
 exact ⟨rfl, sW.out⟩
theorem nX : ∀ u ∈ (Value.agg #[.int .i64 0, .int .i64 0, .int .i64 0, .int .i64 0, .bool false, .int .i64 0, .string ⟨#[]⟩, .slice none 0 0, .int .i64 0, .int .i64 0, .bool false, .int .i64 0, .string ⟨#[]⟩, .bool false, .int .i64 0, .string ⟨#[]⟩, .slice none 0 0, .bool false]).cells.toList, u.oneCell' = true := by intro u hu; simp [Value.cells] at hu; rcases hu with rfl | rfl | rfl | rfl | rfl | rfl | rfl | rfl | rfl | rfl | rfl | rfl | rfl | rfl | rfl | rfl | rfl | rfl <;> rfl
theorem zeroV_C (w : World) : (zeroValue bg).run Tryz.prog w = .ok (.agg #[.int .i64 0, .int .i64 0, .int .i64 0, .int .i64 0, .bool false, .int .i64 0, .string ⟨#[]⟩, .slice none 0 0, .int .i64 0, .int .i64 0, .bool false, .int .i64 0, .string ⟨#[]⟩, .bool false, .int .i64 0, .string ⟨#[]⟩, .slice none 0 0, .bool false]) w := Tryz.zeroValue118 w
theorem iA {B w : World} {D : PH} {l : List HP} {v : Value} {n : Nat} {xs : List (EntE)} {F : Nat} {caps : Array Value} (p : EntE → Bool) (hn : xs.length = n) (hent : Enters Tryz.prog F) (hs : Sat B D w (aJ bg 18 v n (xs.flatMap au) :: l))
  (HF : ∀ x ∈ xs, PredS B D l F caps (au x) (p x)) :
  Calls Tryz.prog 108 #[v, .func (.func F) #[] caps] w fun e w' => ∃ v', e = .returned v' ∧ Sat B D w' (aJ bg 18 v' (xs.filter (fun x => !p x)).length ((xs.filter (fun x => !p x)).flatMap au) :: l) := by
 have hle := (hs.own 0 rfl).le
 obtain ⟨ao, cap, rfl, hnc, hcm, _⟩ := (hs.own 0 rfl).rd.2.2
 have hcm' := hcm
 unfold maxLen at hle hcm
 have wM := BO hcm'
 have HN := BO hn
 have tX := BO (fg p (by rw [hn]; exact (hs.own 0 rfl).rd) (fun x hx => ⟨hent, fun W hW => HF x hx W [_] (hs.kept hW)⟩))
 have HS := BO hs
 have t7 := BO HF
 have wN := BO hent
 clear hs HF hn hent hcm'
 by_cases hall : ∀ y ∈ xs, p y = false
 ·have hi := dt hall
  rw [hi] at tX
  have hfil : xs.filter (fun x => !p x) = xs := List.filter_eq_self.2 (fun x hx => by simp [hall x hx])
  have wO := BO hfil
  clear hall hi hfil
  go_enter Tryz.func108, Tryz.ntmps108
  go_wp2_with (go_at_call 128; refine tX.out.mono ?_; rintro e1 w1 ⟨rfl, hk1⟩; have sS := BO (HS.out.kept hk1); clear hk1 HS tX)
  go_ret
  exact ⟨_, rfl, by rw [wO.out, HN.out]; exact sS.out⟩
 have hex : ∃ (m : Nat) (x : EntE), xs[m]? = some x ∧ p x = true ∧ ∀ y ∈ xs.take m, p y = false := by
  cases hf : xs.findIdx? p with
  | none => exact absurd (List.findIdx?_eq_none_iff.1 hf) hall
  | some m =>
   obtain ⟨hlt, h1, h2⟩ := List.findIdx?_eq_some_iff_getElem.1 hf
   refine ⟨m, xs[m], List.getElem?_eq_getElem hlt, h1, fun y hy => ?_⟩
   obtain ⟨i, hi, rfl⟩ := List.mem_take_iff_getElem.1 hy
   have := h2 i (by omega)
   simpa using this
 obtain ⟨m, x0, hx0, hpx0, hbef⟩ := hex
 have hi := eN hbef hx0 hpx0
 rw [hi] at tX
 have hm : m < n := by have := (List.getElem?_eq_some_iff.1 hx0).1; rw [HN.out] at this; exact this
 have hfm : (xs.take m).filter (fun x => !p x) = xs.take m := List.filter_eq_self.2 (fun x hx => by simp [hbef x hx])
 have hf0 : (xs.take (m + 1)).filter (fun x => !p x) = xs.take m := by rw [aQ (q := fun x => !p x) hx0 (by simp [hpx0]), hfm]
 have y9 := BO hf0
 clear hall hi hbef hx0 hpx0 hfm hf0
 have hw1 : IntKind.i64.wrap ((m : Int) + 1) = (m : Int) + 1 := IntWalk.i64_in _ (by omega)
 have hq1 : ((m : Int) == -1) = false := by simp
 obtain ⟨g, rfl⟩ : ∃ g, ao = some ⟨g, 0, none⟩ := by
  rcases (HS.out.own 0 rfl).2.2 with ⟨h1, h2⟩ | ⟨g, c2, cur, h1, _⟩
  ·omega
  ·cases h1; exact ⟨g, rfl⟩
 go_enter Tryz.func108, Tryz.ntmps108
 go_wp2_with (go_at_call 128; refine tX.out.mono ?_; rintro e1 w1 ⟨rfl, hk1⟩; have sS := BO (HS.out.kept hk1); clear hk1 HS tX)
 clear hw1 hq1
 go_loopw [5, 6] (fun ki ji wr => ∃ (i j : Nat) (ys : List (EntE)), ki = .int .i64 i ∧ ji = .int .i64 j ∧ i < j ∧ j ≤ n ∧ ys.length = n ∧ ys.take i = (xs.take j).filter (fun x => !p x) ∧ ys.drop j = xs.drop j ∧ Sat B D wr (aJ bg 18 (.slice (some ⟨g, 0, none⟩) n cap) n (ys.flatMap au) :: l)) (fun _ ji _ => n - (intOf ji).toNat)
 case atStart => exact ⟨m, m + 1, xs, rfl, by go_num, by omega, by omega, HN.out, y9.out.symm, rfl, sS.out⟩
 case round =>
  obtain ⟨i, j, ys, rfl, rfl, hij, hj, hyl, hyt, hyd, hs2⟩ := hrel
  have vr := BO hyl
  have wP := BO hyt
  have wQ := BO hyd
  have sX := BO hs2
  clear hyl hyt hyd hs2 sS
  by_cases hlt : j < n
  ·have hji : (j : Int) < (n : Int) := by omega
   obtain ⟨x, hx⟩ : ∃ x, xs[j]? = some x := ⟨xs[j]'(by rw [HN.out]; exact hlt), List.getElem?_eq_getElem _⟩
   have hyx : ys[j]? = some x := by
    have h1 := congrArg (fun L => L[0]?) wQ.out
    simp only [List.getElem?_drop, Nat.add_zero] at h1
    rw [h1, hx]
   obtain ⟨g', o', hg', hrng⟩ := aD bM (sX.out.own 0 rfl).rd hyx vr.out
   obtain ⟨rfl, rfl⟩ : g = g' ∧ 0 = o' := by cases hg'; exact ⟨rfl, rfl⟩
   rw [Nat.zero_add] at hrng
   have HL := BO (dk hrng)
   clear hg' hrng hyx
   have HX := BO hx
   have hmem := List.mem_of_getElem? hx
   have sU := BO (sX.out.alloc (au x).toArray bg)
   clear hx
   go_upto_region 8 with (first | (refine ag rfl _ _ rfl _ _ rfl _ HL.out ?_) | (refine ax rfl _ _ _ rfl (au x) _ _ rfl rfl (by kernel_rfl) rfl (eA x) ?_))
   clear HL sX
   obtain ⟨W3, hW3, hs3⟩ := Sat.hide sU.out
   rw [← hW3]
   clear hW3 sU
   generalize wr.heap.size = bx at hs3 ⊢
   have HL := BO (dk (ai (hs3.blk 0 rfl)))
   have HC := BO (t7.out x hmem W3 [_, _] hs3)
   have sU := BO hs3
   clear hs3 hmem
   have hent := wN.out
   unfold Enters at hent
   cases hpx : p x
   ·rw [hpx] at HC
    have up := BO (aO (q := fun x => !p x) HX.out (by simp [hpx]))
    clear hpx
    have hw2 : IntKind.i64.wrap ((i : Int) + 1) = (i : Int) + 1 := IntWalk.i64_in _ (by omega)
    have hin : i < n := by omega
    go_upto_region 9 with (first | (refine ag rfl _ _ rfl _ _ rfl _ HL.out ?_) | (refine HC.out.mono ?_; rintro e1 w1 ⟨rfl, hk1⟩; have sY := BO (sU.out.kept hk1); clear hk1 HC HL sU))
    clear hent
    have HL := BO (dk (ai (sY.out.blk 0 rfl)))
    go_wp2_with (first | (refine ag rfl _ _ rfl _ _ rfl _ HL.out ?_) | (refine ct bM eA rfl _ _ _ rfl bg g _ i n cap rfl (by omega) x rfl ys sY.out.swap (by kernel_rfl) hin vr.out ?_; intro w5 hs5; have sV := BO hs5; clear hs5 sY HL))
    go_roundw
    case rel =>
     refine ⟨i + 1, j + 1, ys.set i x, by go_num, by go_num, by omega, by omega, by rw [List.length_set]; exact vr.out, ?_, ?_, sV.out.swap.drop⟩
     ·rw [up.out, ← wP.out, eo (by rw [vr.out]; exact hin)]
     ·rw [List.drop_set, if_pos (by omega), ← List.drop_drop, wQ.out, List.drop_drop]
    case measure => simp [intOf]; omega
   ·rw [hpx] at HC
    have up := BO (aQ (q := fun x => !p x) HX.out (by simp [hpx]))
    clear hpx
    go_wp2_with (first | (refine ag rfl _ _ rfl _ _ rfl _ HL.out ?_) | (refine HC.out.mono ?_; rintro e1 w1 ⟨rfl, hk1⟩; have sY := BO (sU.out.kept hk1); clear hk1 HC HL sU))
    clear hent
    go_roundw
    case rel => exact ⟨i, j + 1, ys, rfl, by go_num, by omega, by omega, vr.out, by rw [up.out, wP.out], by rw [← List.drop_drop, wQ.out, List.drop_drop], sY.out.drop⟩
    case measure => simp [intOf]; omega
  ·have hji : ¬ ((j : Int) < (n : Int)) := by omega
   have hin : i < n := by omega
   have hb0 : (i : Int) ≤ (n : Int) := by omega
   have hb1 : (n : Int) ≤ (cap : Int) := by omega
   have hb2 : (i : Int) ≤ (cap : Int) := by omega
   have hb3 : i < cap := by omega
   have hb4 : ¬ (cap = i) := by omega
   have hfin : ys.take i = xs.filter (fun x => !p x) := by rw [wP.out, List.take_of_length_le (by rw [HN.out]; omega)]
   have vE := BO hfin
   have tO := BO (show (xs.filter (fun x => !p x)).length = i by rw [← hfin, List.length_take, vr.out]; omega)
   obtain ⟨cur, h4, _, _, hcz, hct, _, _⟩ := sX.out.own_row
   have H4 := BO h4
   have wu := BO hct
   have uh := BO (sX.out.own 0 rfl).2.1
   clear h4 hct sX hfin
   go_wp2_with (show wpList _ _ _ (⟨none, .call _, _, _, _, _⟩ :: _) _ _; refine cP _ rfl _ 108 rfl bg _ Tryz.underlying108 zeroV_C g _ (n - i) _ rfl cur H4.out (by omega) (by simp [size_zeroCells, Value.cells]; omega) (eq nX _) ?_; intro w5 h5; have H5 := BO h5; clear h5)
   go_ret
   refine ⟨_, rfl, ?_⟩
   rw [tO.out]
   refine H5.out.row_own (by omega) wM.out (by rw [ep _ _ _ (by simp [size_zeroCells, Value.cells]; omega)]; exact hcz) ?_ ?_
   ·unfold lay
    rw [List.append_assoc, List.take_append_of_le_length (by rw [List.length_take]; omega), List.take_of_length_le (by rw [List.length_take]; omega), ← vE.out, ← cF bM, ← wu.out, List.take_take]
    congr 1
    omega
   ·intro u hu
    rw [← vE.out, ← cF bM] at hu
    exact uh.out u (List.mem_of_mem_take hu)
theorem waitF_C {w : World} {b : Nat} {o : Int} (hb : w.heap[b]? = some (.cells #[.int .i64 o] 3 (0, 0))) (x : EntE) : PredF 129 #[.pointer (some ⟨b, 0, none⟩)] w (au x) (ofE o (aG x)) := by
 refine ⟨enters_of Tryz.func129 (by kernel_rfl) rfl, fun W hW => ?_⟩
 obtain ⟨W1, hW1, hk1, hbx, hb1⟩ := bQ (aA hW hb) (au x).toArray bg
 have sR := BO hW1
 have sW := BO hk1
 have tu := BO hbx
 obtain ⟨c0, _⟩ := aM hb1
 clear hb hW hW1 hk1 hbx hb1
 show Calls Tryz.prog 129 #[.agg (au x).toArray, .pointer (some ⟨b, 0, none⟩)] W _
 by_cases ho : x.o = o
 ·have HO := BO (show ofE o (aG x) = true by unfold ofE; simp [ho])
  go_enter Tryz.func129, Tryz.ntmps129
  go_upto_region 1 with fail
  rw [← sR.out]
  clear sR
  generalize W.heap.size = bx at tu ⊢
  have x0 := (d5 tu.out).1
  rw [ho] at x0
  clear ho
  go_wp2_with fail
  go_ret
  exact ⟨by rw [HO.out]; simp, sW.out⟩
 ·have HO := BO (show ofE o (aG x) = false by unfold ofE; simp [ho])
  have hne : (x.o == o) = false := by simpa using ho
  go_enter Tryz.func129, Tryz.ntmps129
  go_upto_region 1 with fail
  rw [← sR.out]
  clear sR
  generalize W.heap.size = bx at tu ⊢
  have x0 := (d5 tu.out).1
  clear ho
  go_wp2_with fail
  go_ret
  exact ⟨by rw [HO.out]; rfl, sW.out⟩
theorem rW {w : World} {b : Nat} {o : Int} (hb : w.heap[b]? = some (.cells #[.int .i64 o] 3 (0, 0))) (x : EntE) : PredF 112 #[.pointer (some ⟨b, 0, none⟩)] w (au x) (ofE o (aG x)) := by
 refine ⟨enters_of Tryz.func112 (by kernel_rfl) rfl, fun W hW => ?_⟩
 obtain ⟨W1, hW1, hk1, hbx, hb1⟩ := bQ (aA hW hb) (au x).toArray bg
 have sR := BO hW1
 have sW := BO hk1
 have tu := BO hbx
 obtain ⟨c0, _⟩ := aM hb1
 clear hb hW hW1 hk1 hbx hb1
 show Calls Tryz.prog 112 #[.agg (au x).toArray, .pointer (some ⟨b, 0, none⟩)] W _
 by_cases ho : x.o = o
 ·have HO := BO (show ofE o (aG x) = true by unfold ofE; simp [ho])
  go_enter Tryz.func112, Tryz.ntmps112
  go_upto_region 1 with fail
  rw [← sR.out]
  clear sR
  generalize W.heap.size = bx at tu ⊢
  have x0 := (d5 tu.out).1
  rw [ho] at x0
  clear ho
  go_wp2_with fail
  go_ret
  exact ⟨by rw [HO.out]; simp, sW.out⟩
 ·have HO := BO (show ofE o (aG x) = false by unfold ofE; simp [ho])
  have hne : (x.o == o) = false := by simpa using ho
  go_enter Tryz.func112, Tryz.ntmps112
  go_upto_region 1 with fail
  rw [← sR.out]
  clear sR
  generalize W.heap.size = bx at tu ⊢
  have x0 := (d5 tu.out).1
  clear ho
  go_wp2_with fail
  go_ret
  exact ⟨by rw [HO.out]; rfl, sW.out⟩
theorem rp {w : World} {b : Nat} {o : Int} (hb : w.heap[b]? = some (.cells #[.int .i64 o] 3 (0, 0))) (x : EntE) : PredF 109 #[.pointer (some ⟨b, 0, none⟩)] w (au x) (ofE o (aG x)) := by
 refine ⟨enters_of Tryz.func109 (by kernel_rfl) rfl, fun W hW => ?_⟩
 obtain ⟨W1, hW1, hk1, hbx, hb1⟩ := bQ (aA hW hb) (au x).toArray bg
 have sR := BO hW1
 have sW := BO hk1
 have tu := BO hbx
 obtain ⟨c0, _⟩ := aM hb1
 clear hb hW hW1 hk1 hbx hb1
 show Calls Tryz.prog 109 #[.agg (au x).toArray, .pointer (some ⟨b, 0, none⟩)] W _
 by_cases ho : x.o = o
 ·have HO := BO (show ofE o (aG x) = true by unfold ofE; simp [ho])
  go_enter Tryz.func109, Tryz.ntmps109
  go_upto_region 1 with fail
  rw [← sR.out]
  clear sR
  generalize W.heap.size = bx at tu ⊢
  have x0 := (d5 tu.out).1
  rw [ho] at x0
  clear ho
  go_wp2_with fail
  go_ret
  exact ⟨by rw [HO.out]; simp, sW.out⟩
 ·have HO := BO (show ofE o (aG x) = false by unfold ofE; simp [ho])
  have hne : (x.o == o) = false := by simpa using ho
  go_enter Tryz.func109, Tryz.ntmps109
  go_upto_region 1 with fail
  rw [← sR.out]
  clear sR
  generalize W.heap.size = bx at tu ⊢
  have x0 := (d5 tu.out).1
  clear ho
  go_wp2_with fail
  go_ret
  exact ⟨by rw [HO.out]; rfl, sW.out⟩
def ql (D : PH) (hs : List (EntE)) (L : List (Ent Clm)) : Prop := hs.map aG = L ∧ ∀ x ∈ hs, OkC D x
abbrev bU (v : Value) (hs : List (EntE)) : HP := aJ bg 18 v hs.length (hs.flatMap au)
abbrev qbC (q : Nat) (hv wv : Value) : HP := blk q #[.func (.func 74) #[] #[], .func (.func 75) #[] #[], .func (.func 76) #[] #[], .func (.func 77) #[] #[], hv, wv] tQC
def bP (D : PH) (q : Nat) (Q : Qm Clm) : HP := exP (fun x : (Value × Value) × (List (EntE) × List (EntE)) => ql D x.2.1 Q.held ∧ ql D x.2.2 Q.waits) (fun x => [qbC q x.1.1 x.1.2, bU x.1.1 x.2.1, bU x.1.2 x.2.2])
theorem aU {B w : World} {D D' : PH} {l : List HP} {q : Nat} {Q : Qm Clm} (h : Sat B D w (bP D' q Q :: l)) : ∃ (hv wv : Value) (hs ws : List (EntE)), ql D' hs Q.held ∧ ql D' ws Q.waits ∧ Sat B D w (qbC q hv wv :: bU hv hs :: bU wv ws :: l) := by
 obtain ⟨⟨⟨hv, wv⟩, hs, ws⟩, ⟨h1, h2⟩, h3⟩ := Sat.open_ex h
 exact ⟨hv, wv, hs, ws, h1, h2, h3⟩
theorem cr {B w : World} {D D' : PH} {l : List HP} {q : Nat} {Q : Qm Clm} {hv wv : Value} {hs ws : List (EntE)} (h1 : ql D' hs Q.held) (h2 : ql D' ws Q.waits) (h : Sat B D w (qbC q hv wv :: bU hv hs :: bU wv ws :: l)) : Sat B D w (bP D' q Q :: l) :=
 Sat.close_ex ((hv, wv), hs, ws) ⟨h1, h2⟩ h
theorem fB (p : Ent Clm → Bool) (hs : List (EntE)) : cl (fun x => p (aG x)) hs = cl p (hs.map aG) := by
 unfold cl
 rw [List.findIdx?_map]
 rfl
theorem dL (p : Ent Clm → Bool) (hs : List (EntE)) : hs.any (fun x => p (aG x)) = (hs.map aG).any p := by rw [List.any_map]; rfl
theorem lI {B w : World} {D D' : PH} {l : List HP} {q : Nat} {Q : Qm Clm} (o : Int) (h : Sat B D w (bP D' q Q :: l)) :
  Calls Tryz.prog 82 #[.pointer (some ⟨q, 0, none⟩), .int .i64 o] w fun e w' => e = .returned (.int .i64 (cl (ofE o) Q.waits)) ∧ Kept (fun _ => False) w w' := by
 obtain ⟨hv, wv, hs, ws, hr1, hr2, h1⟩ := aU h
 obtain ⟨W1, hW1, hk1, hbx, hq1⟩ := bQ (h1.blk 0 rfl) #[.int .i64 o] 3
 have HI := BO (fg (fun x => ofE o (aG x)) ((h1.own 2 rfl).rd.kept hk1 (fun _ _ h => h)) (fun x _ => waitF_C hbx x))
 rw [fB (ofE o), hr2.1] at HI
 have sR := BO hW1
 have sW := BO hk1
 have vO := BO hq1
 clear h h1 hr1 hr2 hW1 hk1 hbx hq1
 generalize cl (ofE o) Q.waits = k at *
 go_enter Tryz.func82, Tryz.ntmps82
 go_upto_region 1 with fail
 rw [← sR.out]
 clear sR
 generalize w.heap.size = bx at HI ⊢
 obtain ⟨c0, c1, c2, c3, c4, c5, cf⟩ := a7 vO.out
 go_wp2_with (go_at_call 128; refine HI.out.mono ?_; rintro e1 w1 ⟨rfl, hk2⟩; have s8 := BO (sW.out.trans hk2 (fun _ h => h.elim)); clear hk2 HI c0 c1 c2 c3 c4 c5 cf)
 go_ret
 exact ⟨rfl, s8.out⟩
theorem hU {w : World} {v : Value} {xs : List (ClmE)} {F : Nat} {caps : Array Value} (p : ClmE → Bool) (hrd : Rd w 16 v xs.length (xs.flatMap ClmE.cells)) (HF : ∀ x ∈ xs, PredF F caps w (ClmE.cells x) (p x)) :
  Calls Tryz.prog 130 #[v, .func (.func F) #[] caps] w fun e w' => e = .returned (.int .i64 (cl p xs)) ∧ Kept (fun _ => False) w w' := by
 obtain ⟨_, hml, ao, cap, rfl, hnc, hcm, _⟩ := id hrd
 unfold maxLen at hml hcm
 have s5 := BO hrd
 have t7 := BO HF
 clear hrd HF
 obtain ⟨N, hN⟩ : ∃ N, xs.length = N := ⟨_, rfl⟩
 have HN := BO hN
 rw [hN] at s5 hml hnc ⊢
 clear hN
 go_enter Tryz.func130, Tryz.ntmps130
 go_wp2_with fail
 go_loopw [8] (fun i wr => ∃ j : Nat, i = .int .i64 j ∧ j ≤ N ∧ (∀ x ∈ xs.take j, p x = false) ∧ Kept (fun _ => False) w wr) (fun i _ => N - (intOf i).toNat)
 case atStart => exact ⟨0, rfl, by omega, fun x hx => by simp at hx, Kept.refl _ _⟩
 case round =>
  obtain ⟨j, rfl, hj, hp, hk⟩ := hrel
  have HP := BO hp
  have HK := BO hk
  clear hp hk
  by_cases hlt : j < N
  ·have hi : (j : Int) < (N : Int) := by omega
   obtain ⟨x, hx⟩ : ∃ x, xs[j]? = some x := ⟨xs[j]'(by rw [HN.out]; exact hlt), List.getElem?_eq_getElem _⟩
   obtain ⟨g, o, rfl, hrng⟩ := aD ClmE.len (s5.out.kept HK.out (fun _ _ h => h)) hx HN.out
   have HL := BO (ay hrng)
   have HX := BO hx
   obtain ⟨hent, hcall⟩ := t7.out x (List.mem_of_getElem? hx)
   unfold Enters at hent
   have HC := BO (hcall wr HK.out)
   clear hx hrng hcall
   cases hpx : p x
   ·rw [hpx] at HC
    have up := BO hpx
    clear hpx
    go_wp2_with (first | (refine ag rfl _ _ rfl _ _ rfl _ HL.out ?_) | (refine HC.out.mono ?_; rintro e1 w1 ⟨rfl, hk1⟩; have sW := BO (HK.out.trans hk1 (fun _ h => h.elim)); clear hk1 HC HL))
    go_roundw
    case rel => exact ⟨j + 1, by go_num, by omega, cN HP.out HX.out up.out, sW.out⟩
    case measure => simp [intOf]; omega
   ·rw [hpx] at HC
    have up := BO hpx
    clear hpx
    go_wp2_with (first | (refine ag rfl _ _ rfl _ _ rfl _ HL.out ?_) | (refine HC.out.mono ?_; rintro e1 w1 ⟨rfl, hk1⟩; have sW := BO (HK.out.trans hk1 (fun _ h => h.elim)); clear hk1 HC HL))
    go_ret
    exact ⟨by rw [eN HP.out HX.out up.out]; rfl, sW.out⟩
  ·have hi : ¬ ((j : Int) < (N : Int)) := by omega
   have he : cl p xs = -1 := dt (by have := HP.out; rwa [List.take_of_length_le (by rw [HN.out]; omega)] at this)
   have HE := BO he
   clear he
   go_wp2_with fail
   go_ret
   exact ⟨by rw [HE.out]; rfl, HK.out⟩
theorem fZ {w : World} {v : Value} {xs : List (ClmE)} {F : Nat} {caps : Array Value} (p : ClmE → Bool) (hrd : Rd w 16 v xs.length (xs.flatMap ClmE.cells)) (HF : ∀ x ∈ xs, PredF F caps w (ClmE.cells x) (p x)) :
  Calls Tryz.prog 83 #[v, .func (.func F) #[] caps] w fun e w' => e = .returned (.bool (xs.any p)) ∧ Kept (fun _ => False) w w' := by
 have H := BO (hU p hrd HF)
 rw [← ib]
 clear hrd HF
 generalize cl p xs = k at *
 go_enter Tryz.func83, Tryz.ntmps83
 go_wp2_with (go_at_call 130; refine H.out.mono ?_; rintro e1 w1 ⟨rfl, hk1⟩; have sW := BO hk1; clear hk1 H)
 go_ret
 exact ⟨rfl, sW.out⟩
end Go.Proofs.YtgljdkjepdknnaaGreatDoor
