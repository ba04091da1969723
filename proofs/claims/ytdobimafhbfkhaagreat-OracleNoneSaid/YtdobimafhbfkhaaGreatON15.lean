/- A row as it is changed (row.Update). (printed by genok6.py) -/
import Derived.Test.YtdobimafhbfkhaaGreatON12
import Derived.Test.YtdobimafhbfkhaaGreatON14
set_option maxHeartbeats 64000000
namespace Go.Proofs.YtdobimafhbfkhaaGreat
open Go.ChangeShapes Go.WideShapes Go.ChangeAt Go.RowKit
set_option maxRecDepth 100000
set_option linter.unusedSimpArgs false
def Val.fit (v : Val) : Prop := cw v.n ∧ v.s.size ≤ maxLen
abbrev bN (r : List Val) : Prop := ∀ a ∈ r, a.fit
def RowF (D : PH) (v : Value) (r : List Val) : Prop := RowD D v r ∧ bN r
def SetsF (D : PH) (v : Value) (l : List SetM) : Prop := SetsAt D v l ∧ ∀ s ∈ l, s.v.fit
abbrev ColD (D : PH) (v : Value) (c : List Bool) : Prop := RdP D 1 v c.length (c.flatMap dY)
theorem RowF.mono {D D' : PH} (le : PH.le D D') {v : Value} {r : List Val} (h : RowF D v r) : RowF D' v r := ⟨h.1.mono le, h.2⟩
theorem SetsF.mono {D D' : PH} (le : PH.le D D') {v : Value} {l : List SetM} (h : SetsF D v l) : SetsF D' v l := ⟨RdP.mono h.1 le, h.2⟩
theorem gC (r : List Val) : ∀ (l : List SetM) (s : SetM) (out : List Val), fp r (l ++ [s]) out = (fp r l out).bind fun o => (toS r s).map fun v => o.set s.col.toNat v
 | [], s, out => by
  show (match toS r s with | none => none | some v => some (out.set s.col.toNat v)) = (toS r s).map _
  cases toS r s <;> rfl
 | x :: l, s, out => by
  show (match toS r x with | none => none | some v => fp r (l ++ [s]) (out.set x.col.toNat v)) = Option.bind (match toS r x with | none => none | some v => fp r l (out.set x.col.toNat v)) _
  cases toS r x with
  | none => rfl
  | some v => exact gC r l s _
theorem lH (r : List Val) : ∀ (m l : List SetM) (out : List Val), fp r l out = none → fp r (l ++ m) out = none
 | [], l, out, h => by simpa using h
 | s :: m, l, out, h => by
  have : l ++ s :: m = (l ++ [s]) ++ m := by simp
  rw [this]
  exact lH r m _ out (by rw [gC, h]; rfl)
theorem qz {r : List Val} {l : List SetM} {out : List Val} (n : Nat) (h : fp r (l.take n) out = none) : fp r l out = none := by
 have := lH r (l.drop n) _ out h
 rwa [List.take_append_drop] at this
theorem cC {c : List Bool} {r : List Val} (h : bC c r = true) : r.length = c.length ∧ cH c = true := by unfold bC at h; simp at h; exact ⟨h.1.2, h.1.1⟩
theorem iV {c : List Bool} {l : List SetM} (h : dd c l = true) : l.length ≤ 3 ∧ ∀ s ∈ l, aU c s = true := by unfold dd at h; simp at h; exact ⟨h.1.1.2, h.1.2⟩
theorem qV {c : List Bool} {s : SetM} (h : aU c s = true) : s.col < (c.length : Int) := by
 unfold aU at h
 split at h
 ·cases h
 ·next hn =>
  have h2 : ¬ ay c s.col = 0 := fun e => hn (.inr e)
  have h3 : ¬ (s.col < 0 ∨ (c.length : Int) ≤ s.col) := fun e => h2 (by unfold ay; rw [if_pos e])
  omega
theorem updT_1 {c : List Bool} {r : List Val} {l : List SetM} (h : bC c r = false) : cz c r l = ([], 1) := by unfold cz; rw [h]; rfl
theorem qT {c : List Bool} {r : List Val} {l : List SetM} (h : bC c r = true) (h2 : dd c l = false) : cz c r l = ([], 20) := by unfold cz; rw [h, (cC h).2, h2]; rfl
theorem sd {c : List Bool} {r : List Val} {l : List SetM} (h : bC c r = true) (h2 : dd c l = true) (h3 : fp r l r = none) : cz c r l = ([], 21) := by unfold cz; rw [h, (cC h).2, h2, h3]; rfl
theorem rR {c : List Bool} {r o : List Val} {l : List SetM} (h : bC c r = true) (h2 : dd c l = true) (h3 : fp r l r = some o) : cz c r l = (o, 0) := by unfold cz; rw [h, (cC h).2, h2, h3]; rfl
theorem rS {c : List Bool} {l : List SetM} (h : cH c = true) : dU c l = if dd c l then 0 else 20 := by unfold dU; rw [h]; rfl
theorem pL {r : List Val} {s : SetM} (hr : bN r) (hs : s.v.fit) : (toV r s).fit := by
 unfold toV
 split
 ·exact hs
 ·split
  ·unfold eC
   rw [List.getD_eq_getElem?_getD]
   cases h : r[s.frm.toNat]? with
   | none => exact ⟨show cw 0 by simp [cw], Nat.zero_le _⟩
   | some x => exact hr x (List.mem_of_getElem? h)
  ·refine ⟨?_, Nat.zero_le _⟩
   unfold gm da
   show cw (if fq _ = true then _ else 0)
   split
   ·next h => exact kQ.1 h
   ·simp [cw]
theorem pO {r : List Val} {i : Nat} {v : Val} (h : bN r) (hv : v.fit) : bN (r.set i v) := fun a ha => (List.mem_or_eq_of_mem_set ha).elim (h a) (fun e => e ▸ hv)
def UpdGot (B : World) (D : PH) (l : List HP) (x : List Val × Int) (e : Ending) (w' : World) : Prop := ∃ v', e = .returned (.tuple #[v', .int .i64 x.2]) ∧ bN x.1 ∧ Sat B D w' (aC tV 3 v' x.1.length (x.1.flatMap Val.cells) :: l)
theorem pS {B w : World} {D : PH} {l : List HP} {cv rv sv : Value} {c : List Bool} {r : List Val} {sets : List SetM} (hc : ColD D cv c) (hr : RowF D rv r) (hs : SetsF D sv sets) (h : Sat B D w l) :
  Calls Tryz.prog 113 #[.agg #[cv], rv, sv] w (UpdGot B D l (cz c r sets)) := by
 obtain ⟨W1, hW1, hs1⟩ := Sat.hide (h.alloc #[cv] bw)
 have sL := Bb hW1
 have sK := Bb hs1
 have HC := Bb hc
 have sU := Bb hr
 have tY := Bb hs
 obtain ⟨X, hX⟩ : ∃ X, cz c r sets = X := ⟨_, rfl⟩
 rw [hX]
 have vL := Bb hX
 have vM := Bb (jT (RdP.rd hc hs1) (RdP.rd hr.1 hs1))
 clear h hW1 hs1 hc hr hs hX
 go_enter Tryz.func113, Tryz.ntmps113
 go_upto_region 1 with fail
 rw [← sL.out]
 clear sL
 generalize w.heap.size = bt at sK ⊢
 obtain ⟨b0, bf⟩ := aq (sK.out.blk 0 rfl)
 cases hf : bC c r
 ·rw [hf] at vM
  obtain rfl : X = ([], 1) := vL.out.symm.trans (updT_1 hf)
  clear hf
  go_wp2_with (go_at_call 35; refine vM.out.mono ?_; rintro e1 w1 ⟨rfl, hk2⟩; have sR := Bb (sK.out.kept hk2); clear hk2 b0 bf sK)
  go_ret2
  exact ⟨_, rfl, (fun _ h => by cases h), sR.out.drop.own_nil tV 3⟩
 rw [hf] at vM
 have HF := Bb hf
 clear hf
 go_upto_region 3 with (go_at_call 35; refine vM.out.mono ?_; rintro e1 w1 ⟨rfl, hk2⟩; have sR := Bb (sK.out.kept hk2); clear hk2 b0 bf sK)
 clear vM
 obtain ⟨b0, bf⟩ := aq (sR.out.blk 0 rfl)
 have tE := Bb (fL (RdP.rd HC.out sR.out) (RdP.rd tY.out.1 sR.out))
 rw [rS (cC HF.out).2] at tE
 cases hf : dd c sets
 ·rw [hf] at tE
  simp only [Bool.false_eq_true, if_false] at tE
  obtain rfl : X = ([], 20) := vL.out.symm.trans (qT HF.out hf)
  clear hf
  go_wp2_with (go_at_call 34; refine tE.out.mono ?_; rintro e1 w2 ⟨rfl, hk2⟩; have sO := Bb (sR.out.kept hk2); clear hk2 b0 bf sR)
  go_ret2
  exact ⟨_, rfl, (fun _ h => by cases h), sO.out.drop.own_nil tV 3⟩
 rw [hf] at tE
 simp only [if_true] at tE
 have uj := Bb hf
 clear hf
 go_upto_region 6 with (go_at_call 34; refine tE.out.mono ?_; rintro e1 w2 ⟨rfl, hk2⟩; have sO := Bb (sR.out.kept hk2); clear hk2 b0 bf sR)
 clear tE
 have hrlen : r.length ≤ 4 := by have h1 := cC HF.out; have h2 := h1.2; unfold cH at h2; simp at h2; omega
 have hrpos : 1 ≤ r.length := by have h1 := cC HF.out; have h2 := h1.2; unfold cH at h2; simp at h2; omega
 have ve := Bb (gJ (RdP.rd sU.out.1 sO.out) (by omega) sO.out)
 go_upto_region 7 with (go_at_call 63; refine ve.out.mono ?_; rintro e1 w3 ⟨v1, rfl, hs4⟩; have sV := Bb hs4; clear hs4)
 clear ve sO
 obtain ⟨ao, cap, rfl⟩ := sV.out.own_shape
 obtain ⟨g, rfl⟩ : ∃ g, ao = some ⟨g, 0, none⟩ := by
  rcases (sV.out.own 0 rfl).2.2 with ⟨h1, h2⟩ | ⟨g, c2, cur, h1, _⟩
  ·omega
  ·cases h1; exact ⟨g, rfl⟩
 have AB := Bb (RdP.rd tY.out.1 sV.out)
 obtain ⟨-, m2, so, scap, rfl, -⟩ := RdP.rd tY.out.1 sV.out
 unfold maxLen at m2
 obtain ⟨N, hN⟩ : ∃ N, sets.length = N := ⟨_, rfl⟩
 obtain ⟨M, hM⟩ : ∃ M, r.length = M := ⟨_, rfl⟩
 have HN := Bb hN
 have HM := Bb hM
 have th := Bb (show RdP D 7 (.slice so N scap) N (sets.flatMap SetM.cells) from hN ▸ tY.out.1)
 have uH := Bb tY.out.2
 rw [hN] at m2 tY ⊢
 rw [hM] at sV hrlen hrpos ⊢
 have A8 := Bb (show N ≤ 3 by have := (iV uj.out).1; omega)
 clear hN hM AB tY
 go_wp2_with fail
 go_loopw [28] (fun idx wr => ∃ (j : Nat) (o : List Val), idx = .int .i64 j ∧ j ≤ N ∧ fp r (sets.take j) r = some o ∧ o.length = M ∧ bN o ∧ Sat B D wr (aC tV 3 (.slice (some ⟨g, 0, none⟩) M cap) M (o.flatMap Val.cells) :: blk bt #[cv] bw :: l)) (fun idx _ => N - (intOf idx).toNat)
 case atStart => exact ⟨0, r, rfl, Nat.zero_le _, rfl, HM.out, sU.out.2, sV.out⟩
 case round =>
  obtain ⟨j, o, rfl, hj, hu, hol, hof, hs⟩ := hrel
  have HU := Bb hu
  have zm := Bb hol
  have zZ := Bb hof
  have HS := Bb hs
  clear hu hol hof hs sV
  by_cases hlt : j < N
  ·obtain ⟨x, hx⟩ : ∃ x, sets[j]? = some x := ⟨sets[j]'(by rw [HN.out]; exact hlt), List.getElem?_eq_getElem _⟩
   have HX := Bb (show sets.take (j + 1) = sets.take j ++ [x] by rw [List.take_add_one, hx]; rfl)
   have hmay := (iV uj.out).2 x (List.mem_of_getElem? hx)
   have vR := Bb hmay
   have Aa := Bb (uH.out x (List.mem_of_getElem? hx))
   have hcol := lE (cC HF.out).2 hmay
   obtain ⟨k, hk⟩ : ∃ k : Nat, x.col = (k : Int) := ⟨x.col.toNat, by omega⟩
   obtain ⟨g1, o1, rfl, hr1⟩ := cq SetM.len (th.out.rd HS.out) hx HN.out
   have xX := Bb (pG hr1)
   obtain ⟨W3, hW3, hs5⟩ := Sat.hide (HS.out.alloc x.cells.toArray cB)
   have xY := Bb hW3
   have td := Bb hs5
   have HK := Bb hk
   have hkM : k < M := by
    have h1 := cC HF.out
    have h2 := qV hmay
    rw [HM.out] at h1
    omega
   clear hx hmay hr1 hW3 hs5 hk hcol HS
   go_upto_region 10 with (first | (refine bG rfl _ _ rfl _ _ rfl _ xX.out ?_) | (refine cN rfl _ _ _ rfl x.cells _ _ rfl rfl (by kernel_rfl) rfl (SetM.one x) ?_))
   rw [← xY.out]
   clear xY xX
   generalize wr.heap.size = bs at td ⊢
   have xQ := Bb (to_ok (RdP.rd sU.out.1 td.out) (cC HF.out).1 vR.out (fun a ha => (sU.out.2 a ha).1) Aa.out.1 td.out)
   obtain ⟨x0, x1, x2, x3, x4, x5, x6⟩ := az (td.out.blk 0 rfl)
   cases hb : toB r x
   ·rw [hb] at xQ
    have u9 := Bb (qz (out := r) (j + 1) (by rw [HX.out, gC, HU.out, oJ, hb]; rfl))
    obtain rfl : X = ([], 21) := vL.out.symm.trans (sd HF.out uj.out u9.out)
    clear hb
    go_wp2_with (first | (go_at_call 128; refine xQ.out.mono ?_; rintro e5 w5 ⟨rfl, hs6⟩; have sP := Bb hs6; clear hs6 xQ td x0 x1 x2 x3 x4 x5 x6) | (refine cN rfl _ _ _ rfl (toV r x).cells _ _ rfl rfl (by kernel_rfl) rfl (Val.one _) ?_))
    go_ret2
    exact ⟨_, rfl, (fun _ h => by cases h), (((sP.out.alloc (toV r x).cells.toArray tV).drop.drop.drop.drop).own_nil tV 3)⟩
   ·rw [hb] at xQ
    have zn := Bb (show fp r (sets.take (j + 1)) r = some (o.set k (toV r x)) by rw [HX.out, gC, HU.out, oJ, hb, HK.out]; rfl)
    have AC := Bb (pL sU.out.2 Aa.out)
    clear hb
    have hkM2 : (k : Int) < (M : Int) := by omega
    go_upto_region 11 with (first | (go_at_call 128; refine xQ.out.mono ?_; rintro e5 w5 ⟨rfl, hs6⟩; have sP := Bb (hs6.alloc (toV r x).cells.toArray tV); clear hs6 xQ td x0 x1 x2 x3 x4 x5 x6) | (refine cN rfl _ _ _ rfl (toV r x).cells _ _ rfl rfl (by kernel_rfl) rfl (Val.one _) ?_))
    obtain ⟨W6, hW6⟩ : ∃ W, W = w5.alloc (.cells (toV r x).cells.toArray tV) := ⟨_, rfl⟩
    rw [← hW6] at sP ⊢
    generalize w5.heap.size = bv at sP ⊢
    clear hW6
    obtain ⟨x0, x1, x2, x3, x4, x5, x6⟩ := az (sP.out.blk 1 rfl)
    rw [HK.out] at x0
    have yU := Bb (fm (aA (sP.out.blk 0 rfl)))
    have sW := Bb (sP.out.drop.drop)
    clear sP
    go_wp2_with (first | (refine bG rfl _ _ rfl _ _ rfl _ yU.out ?_) | (refine iq Val.len Val.one rfl _ _ _ rfl tV g _ k M cap rfl (by omega) (toV r x) rfl o sW.out (by kernel_rfl) hkM zm.out ?_; intro w7 hs7; have tO := Bb hs7; clear hs7 sW yU x0 x1 x2 x3 x4 x5 x6))
    go_roundw
    case rel => exact ⟨j + 1, _, by go_num, by omega, zn.out, by rw [List.length_set]; exact zm.out, pO zZ.out AC.out, tO.out⟩
    case measure => simp [intOf]; omega
  ·obtain rfl : j = N := by omega
   have zn := Bb (show fp r sets r = some o by rw [← HU.out, List.take_of_length_le (Nat.le_of_eq HN.out)])
   obtain rfl : X = (o, 0) := vL.out.symm.trans (rR HF.out uj.out zn.out)
   go_wp2_with fail
   go_ret2
   exact ⟨_, rfl, zZ.out, by rw [zm.out]; exact (HS.out.swap.drop)⟩
end Go.Proofs.YtdobimafhbfkhaaGreat
