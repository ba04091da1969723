/- Joined texts: A claim of one's own, in what turns no more. New locks (locks.New). What somebody holds; how many there are; for what and whom somebody waits. The laws' claim on a row, and their table; rows of numbers. -/
import Derived.Test.YtgljdkjepdknnaaGreatDoorMT12
import Derived.Test.YtgljdkjepdknnaaGreatDoorMT23
import Derived.Test.YtgljdkjepdknnaaGreatDoorMT15
import Derived.Test.YtgljdkjepdknnaaGreatDoorMT25
import Derived.Test.YtgljdkjepdknnaaGreatDoorMT7
set_option maxHeartbeats 64000000
namespace Go.Proofs.YtgljdkjepdknnaaGreatDoor
open Go.ChangeShapes Go.WideShapes Go.ChangeAt Go.RowKit
set_option maxRecDepth 100000
set_option linter.unusedSimpArgs false
theorem lS {B w : World} {D : PH} {l : List HP} {x : ClmE} (hx : ClOk D x) (hsm : ClmSm 1000000 x.c) (hs : Sat B D w l) :
  Calls Tryz.prog 45 #[.agg x.cells.toArray] w fun e w' => ∃ (z : ClmE) (D' : PH), e = .returned (.agg z.cells.toArray) ∧ z.c = x.c ∧ PH.le D D' ∧ ClOk D' z ∧ Sat B D' w' l := by
 refine (gO hx hsm hs).mono ?_
 rintro e w' ⟨z, hs, D4, he, hzc, hzi, hle4, hrh, hzl, hpa, hs4⟩
 obtain ⟨D5, hle5, hrd5, hs5⟩ := hs4.own_give
 refine ⟨z, D5, he, hzc, hle4.trans hle5, ⟨?_, hpa.mono hle5⟩, hs5⟩
 rw [hzi]
 refine (hrh.mono hle5).at ?_ (hs4.own 0 rfl).2.1
 rw [← hzl]; exact hrd5
theorem sQ : (Tryz.prog.info? tB).map (fun i => (i.zero, i.size, i.bytes)) = some (some (.bool false), 1, 1) := by kernel_rfl
theorem infoTab : (Tryz.prog.info? dz).map (fun i => (i.zero, i.size, i.bytes)) = some (some (.agg #[.slice none 0 0]), 1, 24) := by kernel_rfl
theorem mU {B w : World} {D : PH} {l : List HP} {v : Value} {n : Nat} {xs : List Value} (hrd : Rd w 1 v n xs) (hone : ∀ u ∈ xs, u.oneCell' = true) (hb : n * 1 ≤ 140737488355328) (hs : Sat B D w l) :
  Calls Tryz.prog 38 #[v] w fun e w' => ∃ v', e = .returned v' ∧ Sat B D w' (aJ tB 1 v' n xs :: l) := by
 obtain ⟨i0, hi, hz0, hz1, hz2⟩ := info_parts sQ
 have hm := hrd.2.1
 obtain ⟨ao, cap, rfl, _, _, hnone, hcase⟩ := hrd.2.2
 cases ao with
 | none =>
  have h0 : n = 0 := by rcases hcase with h | ⟨g, o, h, _⟩; exact h; cases h
  subst h0
  have hx : xs = [] := List.eq_nil_of_length_eq_zero (by simpa using hrd.1)
  subst hx
  have HS := BO (hs.own_nil tB 1)
  clear hcase hnone hrd hz0 hz1 hz2 hi hb hs
  go_enter Tryz.func38, Tryz.ntmps38
  go_wp2_with fail
  go_ret
  exact ⟨_, rfl, HS.out⟩
 | some a =>
  have hown := Sat.own_fresh (e := tB) (size := 1) (n := 0) (cap := 0) (cs := #[]) (xs := []) hs (by omega) (by omega) (by simp) (by simp) (by simp)
  have hrd2 : Rd (w.alloc (.cells #[] tB)) 1 (.slice (some a) n cap) n xs := hrd.kept ((Kept.refl (fun _ => False) _).alloc _) (fun _ _ h => h)
  have HO := BO hown
  have HR := BO hrd2
  have HI := BO (And.intro hi (And.intro hz0 (And.intro hz1 hz2)))
  clear hcase hnone hrd hz0 hz1 hz2 hi hs hown hrd2
  go_enter Tryz.func38, Tryz.ntmps38
  go_wp2_with (at_builtin; refine ar _ rfl _ _ tBs rfl tB i0 _ 1 1 Tryz.underlying25 HI.out.1 HI.out.2.1 HI.out.2.2.1 HI.out.2.2.2 rfl _ 0 [] rfl HO.out _ n xs rfl HR.out hone (by omega) (by omega) ?_; intro v' w' h1 h2; simp only [Nat.zero_add, List.nil_append] at h1; have H1 := BO h1; clear h1 h2)
  go_ret
  exact ⟨_, rfl, H1.out⟩
def TblsH (D : PH) (hs : List Value) (ts : List (List Bool)) : Prop := hs.length = ts.length ∧ ∀ (i : Nat) (h : Value) (r : List Bool), hs[i]? = some h → ts[i]? = some r → RdP D 1 h r.length (r.flatMap dH)
theorem TblsH.mono {D D' : PH} {hs : List Value} {ts : List (List Bool)} (h : TblsH D hs ts) (le : PH.le D D') : TblsH D' hs ts := ⟨h.1, fun i u r a b => (h.2 i u r a b).mono le⟩
theorem TblsH.snoc {D : PH} {hs : List Value} {ts : List (List Bool)} {h : Value} {r : List Bool} (H : TblsH D hs ts) (hr : RdP D 1 h r.length (r.flatMap dH)) : TblsH D (hs ++ [h]) (ts ++ [r]) := by
 refine ⟨by simp [H.1], fun i u x a b => ?_⟩
 have hl := H.1
 rcases Nat.lt_trichotomy i hs.length with hi | hi | hi
 ·rw [List.getElem?_append_left hi] at a
  rw [List.getElem?_append_left (by omega)] at b
  exact H.2 i u x a b
 ·subst hi
  rw [List.getElem?_append_right (by omega)] at a
  rw [List.getElem?_append_right (by omega)] at b
  simp at a
  simp [hl] at b
  subst a; subst b; exact hr
 ·rw [List.getElem?_eq_none (by simp; omega)] at a
  cases a
theorem TblsAt.h {D : PH} {v : Value} {ts : List (List Bool)} (h : TblsAt D v ts) : ∃ hs, hs.length = ts.length ∧ (∀ u ∈ hs, u.oneCell' = true) ∧ RdP D 1 v ts.length hs ∧ TblsH D hs ts := by
 obtain ⟨hs, h1, h2, h3, h4⟩ := h
 exact ⟨hs, h1, h2, h3, h1, h4⟩
theorem Sat.setT {B w : World} {D : PH} {l : List HP} {L : Nat} {qv tv rv : Value} {room : Value} (hs : Sat B D w (Proofs.YtgljdkjepdknnaaGreatDoor.blk L #[qv, tv, room, rv] tLk :: l)) (u : Value) : Sat B D (w.setCell ⟨L, 1, none⟩ u) (Proofs.YtgljdkjepdknnaaGreatDoor.blk L #[qv, u, room, rv] tLk :: l) := hs.set 1 u
theorem Sat.setQ0 {B w : World} {D : PH} {l : List HP} {L : Nat} {qv tv rv : Value} {room : Value} (hs : Sat B D w (Proofs.YtgljdkjepdknnaaGreatDoor.blk L #[qv, tv, room, rv] tLk :: l)) (u : Value) : Sat B D (w.setCell ⟨L, 0, none⟩ u) (Proofs.YtgljdkjepdknnaaGreatDoor.blk L #[u, tv, room, rv] tLk :: l) := hs.set 0 u
theorem New_L {B w : World} {D : PH} {l : List HP} {tv : Value} {ts : List (List Bool)} (room : Int) (ht : TblsAt D tv ts) (hn : ts.length ≤ 1000) (hcs : ∀ c ∈ ts, c.length ≤ 140737488355328) (h : Sat B D w l) :
  Calls Tryz.prog 12 #[tv, .int .i64 room] w fun e w' => ∃ L D', e = .returned (.pointer (some ⟨L, 0, none⟩)) ∧ PH.le D D' ∧ Sat B D' w' (b7 D' L ts (min (max room 0) 200) ⟨⟨[], []⟩, []⟩ :: l) := by
 obtain ⟨i0, hi, hz0, hz1, hz2⟩ := info_parts infoTab
 have HI := BO (And.intro hi (And.intro hz0 (And.intro hz1 hz2)))
 obtain ⟨hs, hl, hone, hrd, hth⟩ := ht.h
 obtain ⟨ta, tc, rfl⟩ := hrd.shape
 obtain ⟨N, hN⟩ : ∃ N, ts.length = N := ⟨_, rfl⟩
 obtain ⟨rm, hrm⟩ : ∃ rm, rm = min (max room 0) 200 := ⟨_, rfl⟩
 have zp := BO hrm
 obtain ⟨W1, hW1, hs1⟩ := Sat.hide ((h.own_nil dz 1).alloc #[.pointer none, .slice none 0 0, .int .i64 rm, .slice none 0 0] tLk)
 have sR := BO hW1
 have sS := BO hs1
 have By := BO hth
 have s5 := BO hrd
 have ui := BO hcs
 have hnN : N ≤ 1000 := by omega
 have HN := BO hN
 have HL := BO hl
 clear hi hz0 hz1 hz2 h hs1 hW1 hth hrd hcs hl hn
 rw [hN]
 rw [hN] at s5
 clear hN
 rw [← hrm]
 clear hrm ht hone
 go_enter Tryz.func12, Tryz.ntmps12
 go_upto_region 2 with fail
 rw [show (if 200 < if room < 0 then 0 else room then 200 else if room < 0 then 0 else room) = rm by rw [zp.out]; split <;> split <;> omega]
 generalize (if room < 0 then (0 : Int) else room) = r9
 rw [← sR.out]
 clear sR
 generalize w.heap.size = L at sS ⊢
 obtain ⟨c0, c1, c2, c3, cf⟩ := bA (sS.out.blk 0 rfl)
 go_wp2_with fail
 clear c0 c1 c2 c3 cf
 go_loopw [15] (fun i wr => ∃ (j : Nat) (D2 : PH) (v : Value) (us : List Value), i = .int .i64 j ∧ j ≤ N ∧ PH.le D D2 ∧ us.length = j ∧ TblsH D2 us (ts.take j) ∧ Sat B D2 wr (blk L #[.pointer none, v, .int .i64 rm, .slice none 0 0] tLk :: aJ dz 1 v j us :: l)) (fun i _ => N - (intOf i).toNat)
 case atStart => exact ⟨0, D, _, [], rfl, by omega, PH.le.refl _, rfl, ⟨rfl, fun i h r a b => by simp at a⟩, sS.out⟩
 case round =>
  obtain ⟨j, D2, v, us, rfl, hj, hle, hul, huh, hs2⟩ := hrel
  obtain ⟨va, vc, rfl⟩ := (hs2.front 1 rfl).own_shape
  have tt := BO hle
  have yU := BO hul
  have A3 := BO huh
  have sX := BO hs2
  clear hle hul huh hs2 sS
  by_cases hlt : j < N
  ·have hji : (j : Int) < (N : Int) := by omega
   have hjN : j ≤ 1000 := by omega
   obtain ⟨u, hu⟩ : ∃ u, hs[j]? = some u := ⟨hs[j]'(by rw [HL.out, HN.out]; exact hlt), List.getElem?_eq_getElem _⟩
   obtain ⟨c, hc⟩ : ∃ c, ts[j]? = some c := ⟨ts[j]'(by rw [HN.out]; exact hlt), List.getElem?_eq_getElem _⟩
   have hrr := s5.out.mono tt.out |>.rd sX.out
   obtain ⟨g, og, rfl⟩ : ∃ g og, ta = some ⟨g, og, none⟩ := by
    rcases hrr.2.2 with ⟨_, _, hv, _, _, _, hcase⟩
    cases hv
    rcases hcase with h0 | ⟨g, o, hg, _⟩
    ·omega
    ·exact ⟨g, o, hg⟩
   have hcell : wr.cell? ⟨g, og + j, none⟩ = some u := by
    rcases hrr.2.2 with ⟨_, _, hv, _, _, _, hcase⟩
    cases hv
    rcases hcase with h0 | ⟨g', o', hg, hcl⟩
    ·omega
    ·cases hg; exact hcl j u hu
   have hcr := (By.out.2 j u c hu hc).mono tt.out
   have xd := BO hcr
   have uu := BO (show ts.take (j + 1) = ts.take j ++ [c] by rw [List.take_add_one, hc]; rfl)
   have HB := BO (ui.out c (List.mem_of_getElem? hc))
   have sU := BO (sX.out.alloc #[u] dz)
   have huo := hcr.2.2
   obtain ⟨ua, uc, rfl, _⟩ := huo
   clear hu hc hrr hcr
   go_upto_region 5 with fail
   obtain ⟨W3, hW3, hs3⟩ := Sat.hide sU.out
   rw [← hW3]
   clear hW3 sU sX hcell
   generalize wr.heap.size = bt at hs3 ⊢
   obtain ⟨t0, tf⟩ := aM (hs3.blk 0 rfl)
   obtain ⟨c0, c1, c2, c3, cf⟩ := bA (hs3.blk 1 rfl)
   have xe := BO (mU (xd.out.rd hs3.drew) (fun x hx => by obtain ⟨b, _, hx⟩ := List.mem_flatMap.1 hx; exact bone b x hx) (by have := HB.out; omega) hs3.drew)
   clear hs3
   refine af [(0, false, 13), (1, false, 10), (2, false, 10), (3, false, 10), (4, false, 10), (5, false, 7), (6, false, 7), (7, true, 0), (8, false, 9), (9, true, 0), (10, true, 0), (11, false, 13), (12, false, 13), (13, true, 0)] (by kernel_rfl) (by kernel_rfl) ?_
   iterate 7 (refine ae rfl rfl (fun K hK => ?_); go_simp; refine hK _ ?_; clear hK K)
   refine al rfl ?_
   refine aw rfl (fun K hK => ?_)
   go_simp
   refine xe.out.mono ?_
   rintro e4 w4 ⟨v4, rfl, hs4⟩
   obtain ⟨wa, wc, rfl⟩ := hs4.own_shape
   obtain ⟨D4, hle4, hrd4, hs5⟩ := hs4.own_give
   have tI := BO (tt.out.trans hle4)
   have Al := BO ((A3.out.mono hle4).snoc hrd4)
   have sV := BO hs5
   clear t0 tf c0 c1 c2 c3 cf hs4 hle4 hrd4 hs5 xe
   obtain ⟨t0, tf⟩ := aM (sV.out.blk 0 rfl)
   obtain ⟨c0, c1, c2, c3, cf⟩ := bA (sV.out.blk 1 rfl)
   refine hK _ _ ?_
   clear hK K
   refine wpList_nil ?_
   refine And.intro ?_ ?_
   ·go_simp
   refine ae rfl rfl (fun K hK => ?_); go_simp; refine hK _ ?_; clear hK K
   refine al rfl ?_
   refine aC rfl _ _ rfl dz i0 _ [.slice wa c.length wc] rfl Tryz.underlying28 HI.out.1 HI.out.2.1 (HI.out.2.2.1.trans rfl) (by simp) (by simp) ?_
   refine wpList_nil ?_
   obtain ⟨W6, hW6, hs6⟩ := Sat.hide (sV.out.alloc #[.slice wa c.length wc] dz)
   rw [← hW6]
   clear hW6 sV t0 tf c0 c1 c2 c3 cf
   generalize w4.heap.size = bz at hs6 ⊢
   obtain ⟨c0, c1, c2, c3, cf⟩ := bA (hs6.blk 2 rfl)
   have zq := BO (aT (size := 1) (n := 1) (hs6.blk 0 rfl) rfl (by unfold maxLen; omega))
   have s0 := BO (show Sat B D4 W6 (aJ dz 1 (.slice va j vc) j us :: blk bz #[.slice wa c.length wc] dz :: blk bt #[.slice ua c.length uc] dz :: blk L #[.pointer none, .slice va j vc, .int .i64 rm, .slice none 0 0] tLk :: l) from hs6.front 3 rfl)
   clear hs6
   refine And.intro ?_ ?_
   ·go_simp
   refine al rfl ?_
   refine ar _ rfl _ _ tTabs rfl dz i0 _ 1 24 Tryz.underlying28 HI.out.1 HI.out.2.1 HI.out.2.2.1 HI.out.2.2.2 rfl _ j us rfl s0.out _ 1 _ rfl zq.out (by intro x hx; simp at hx; subst hx; rfl) (by unfold maxLen; omega) (by omega) ?_
   intro v7 w7 hs7 h17
   refine wpList_nil ?_
   clear c0 c1 c2 c3 cf s0 zq
   obtain ⟨c0, c1, c2, c3, cf⟩ := bA (hs7.blk 3 rfl)
   have td := BO (Sat.setT (hs7.front 3 rfl) v7)
   clear hs7
   obtain ⟨va', vc', rfl⟩ : ∃ a c, v7 = .slice a (j + 1) c := (td.out.front 1 rfl).own_shape
   refine And.intro ?_ ?_
   ·go_simp
   iterate 2 (refine ae rfl rfl (fun K hK => ?_); go_simp; refine hK _ ?_; clear hK K)
   refine al rfl ?_
   refine wpList_plain rfl (fun K hK => ?_)
   go_simp
   refine hK _ _ ?_
   clear hK K
   refine wpList_nil ?_
   refine And.intro ?_ ?_
   ·go_simp
   refine ap ?_
   go_wp2_with fail
   go_roundw
   case rel => exact ⟨j + 1, D4, _, us ++ [.slice wa c.length wc], by go_num, by omega, tI.out, by rw [List.length_append, yU.out]; rfl, by rw [uu.out]; exact Al.out, td.out.rm2.rm2⟩
   case measure => simp [intOf]; omega
  ·have hji : ¬ ((j : Int) < (N : Int)) := by omega
   obtain rfl : j = N := by omega
   have HQ := BO (oR sX.out)
   have Bz := BO (show ts.take j = ts by rw [← HN.out, List.take_length])
   clear sX
   go_upto_region 7 with fail
   go_wp2_with (go_at_call 39; refine HQ.out.mono ?_; rintro e8 w8 ⟨q, rfl, hs8⟩; obtain ⟨c0, c1, c2, c3, cf⟩ := bA (hs8.blk 1 rfl); have tj := BO (Sat.setQ0 (hs8.front 1 rfl) (.pointer (some ⟨q, 0, none⟩))); clear hs8 HQ)
   go_ret
   have h9 : Sat B D2 _ (aJ dz 1 (.slice va j vc) j us :: _) := tj.out.front 2 rfl
   have hone := (h9.own 0 rfl).2.1
   obtain ⟨D9, hle9, hrd9, hs9⟩ := h9.own_give
   have hth := A3.out
   rw [Bz.out] at hth
   refine ⟨L, D9, rfl, tt.out.trans hle9, bN (q := q) (tv := .slice va j vc) (rv := .slice none 0 0) (rs := []) ⟨us, by rw [yU.out, HN.out], hone, by rw [HN.out]; exact hrd9, fun i u r a b => (hth.2 i u r a b).mono hle9⟩ ⟨rfl, fun x hx => by cases hx⟩ ?_⟩
   have h10 := gY (hs9.swap) hle9
   exact ((h10.own_nil tRs 18).rot.swap)
def HeldL (B : World) (D : PH) (l : List HP) (L : Nat) (ts : List (List Bool)) (room : Int) (m : LkM) (cs : List Clm) (e : Ending) (w' : World) : Prop := ∃ v D', e = .returned v ∧ PH.le D D' ∧ Sat B D' w' (pd D' v cs :: b7 D L ts room m :: l)
section
variable {B w : World} {D : PH} {l : List HP} {L : Nat} {ts : List (List Bool)} {room : Int} {m : LkM}
theorem Len_L (hM : m.q.held.length + m.q.waits.length ≤ 1000000) (h : Sat B D w (b7 D L ts room m :: l)) :
  Calls Tryz.prog 27 #[.pointer (some ⟨L, 0, none⟩)] w fun e w' => e = .returned (.int .i64 ((m.q.held.length + m.q.waits.length : Nat) : Int)) ∧ Kept (fun _ => False) w w' := by
 obtain ⟨q, tv, rv, rs, ht, hr, h1⟩ := bW h
 obtain ⟨c0, c1, c2, c3, _⟩ := bA (h1.blk 0 rfl)
 have tE := BO (rX hM h1.swap)
 clear h ht hr h1
 generalize m.q.held.length + m.q.waits.length = n at *
 go_enter Tryz.func27, Tryz.ntmps27
 go_wp2_with (go_at_call 44; refine tE.out.mono ?_; rintro e1 w1 ⟨rfl, hk1⟩; have sW := BO hk1; clear hk1 tE)
 go_ret
 exact ⟨rfl, sW.out⟩
theorem iy (o : Int) (hM : m.q.held.length ≤ 100000) (hqs : ∀ e ∈ m.q.held, ClmSm 1000000 e.c) (h : Sat B D w (b7 D L ts room m :: l)) :
  Calls Tryz.prog 17 #[.pointer (some ⟨L, 0, none⟩), .int .i64 o] w (HeldL B D l L ts room m (aE m.q o)) := by
 obtain ⟨i0, hi, hz0, hz1, hz2⟩ := info_parts kz
 have HI := BO (And.intro hi (And.intro hz0 (And.intro hz1 hz2)))
 obtain ⟨q, tv, rv, rs, ht, hr, h1⟩ := bW h
 have HT := BO ht
 have HR := BO hr
 obtain ⟨c0, c1, c2, c3, _⟩ := bA (h1.blk 0 rfl)
 have ue := BO (jE o hM h1.swap)
 have Am := BO (show ∀ c ∈ aE m.q o, ClmSm 1000000 c from fun c hc => by
  obtain ⟨e, he, rfl⟩ := List.mem_map.1 hc
  exact hqs e (List.mem_filter.1 he).1)
 have hlen : (aE m.q o).length ≤ 100000 := by
  unfold aE
  rw [List.length_map]
  exact Nat.le_trans (List.length_filter_le _ _) hM
 clear h ht hr h1 hqs hi hz0 hz1 hz2
 go_enter Tryz.func17, Tryz.ntmps17
 go_upto_region 5 with (go_at_call 49; refine ue.out.mono ?_; rintro e1 w1 ⟨v1, rfl, hs1⟩; obtain ⟨cs, hcs, hok, hs2⟩ := d4 hs1; obtain ⟨va, vc, rfl⟩ := hs2.own_shape; have hs3 := bN HT.out HR.out (((hs2.front 3 rfl).front 2 rfl).front 3 rfl); have ui := BO hcs; have tJ := BO hok; have sU := BO (hs3.own_nil tCl 16); clear hs1 hcs hok hs2 hs3 ue c0 c1 c2 c3)
 obtain ⟨N, hN⟩ : ∃ N, cs.length = N := ⟨_, rfl⟩
 have HN := BO hN
 have uj := BO (show cs.length = (aE m.q o).length by rw [← ui.out, List.length_map])
 rw [hN] at sU
 rw [hN]
 have hNM : N ≤ 100000 := by have := uj.out; omega
 clear hN
 go_wp2_with fail
 go_loopw [5, 18] (fun ot ii wr => ∃ (j : Nat) (ov : Value) (D2 : PH) (zs : List ClmE), ii = .int .i64 j ∧ ot = ov ∧ j ≤ N ∧ PH.le D D2 ∧ zs.length = j ∧ zs.map ClmE.c = (aE m.q o).take j ∧ (∀ x ∈ zs, ClOk D2 x) ∧ Sat B D2 wr (aJ tCl 16 ov j (zs.flatMap ClmE.cells) :: b7 D L ts room m :: aJ tCl 16 (.slice va N vc) N (cs.flatMap ClmE.cells) :: l)) (fun _ ii _ => N - (intOf ii).toNat)
 case atStart => exact ⟨0, _, D, [], rfl, rfl, by omega, PH.le.refl _, rfl, rfl, (fun x hx => by cases hx), sU.out⟩
 case round =>
  obtain ⟨j, ov, D2, zs, rfl, rfl, hj, hle, hzl, hzm, hzo, hs4⟩ := hrel
  obtain ⟨oa, oc, rfl⟩ := hs4.own_shape
  have tt := BO hle
  have yO := BO hzl
  have A4 := BO hzm
  have xN := BO hzo
  have sY := BO hs4
  clear hle hzl hzm hzo hs4 sU
  by_cases hlt : j < N
  ·have hii : (j : Int) < (N : Int) := by omega
   obtain ⟨x, hx⟩ : ∃ x, cs[j]? = some x := ⟨cs[j]'(by rw [HN.out]; exact hlt), List.getElem?_eq_getElem _⟩
   obtain ⟨g, og, rfl, hrng⟩ := aD ClmE.len (sY.out.own 2 rfl).rd hx HN.out
   have th := BO (ay hrng)
   have hxc : (aE m.q o)[j]? = some x.c := by rw [← ui.out, List.getElem?_map, hx]; rfl
   have uu := BO (show (aE m.q o).take (j + 1) = (aE m.q o).take j ++ [x.c] by rw [List.take_add_one, hxc]; rfl)
   have BA := BO (Am.out x.c (List.mem_of_getElem? hxc))
   have yA := BO ((tJ.out x (List.mem_of_getElem? hx)).mono tt.out)
   have sV := BO (sY.out.alloc x.cells.toArray tCl)
   have hjM : j ≤ 100000 := by omega
   clear hx hrng hxc sY
   go_upto_region 7 with (first | (refine ag rfl _ _ rfl _ _ rfl _ th.out ?_) | (refine ax rfl _ _ _ rfl x.cells _ _ rfl rfl (by kernel_rfl) rfl (ClmE.one x) ?_))
   obtain ⟨W6, hW6, hs6⟩ := Sat.hide sV.out
   rw [← hW6]
   clear hW6 sV th
   generalize wr.heap.size = bx at hs6 ⊢
   have yB := BO (ay (ai (hs6.blk 0 rfl)))
   have xe := BO (lS yA.out BA.out hs6)
   clear hs6
   go_wp2_with (first
    | (refine ag rfl _ _ rfl _ _ rfl _ yB.out ?_)
    | (go_at_call 45; refine xe.out.mono ?_; rintro e7 w7 ⟨z, D7, rfl, hzc, hle7, hzok, hs7⟩; have vU := BO hzc; have tq := BO hle7; have An := BO hzok; have td := BO (show Sat B D7 (w7.alloc (.cells z.cells.toArray tCl)) (aJ tCl 16 (.slice oa j oc) j (zs.flatMap ClmE.cells) :: blk w7.heap.size z.cells.toArray tCl :: blk bx x.cells.toArray tCl :: b7 D L ts room m :: aJ tCl 16 (.slice (some ⟨g, og, none⟩) N vc) N (cs.flatMap ClmE.cells) :: l) from (hs7.alloc _ _).front 2 rfl); have xg := BO (aT (size := 16) (n := 1) (td.out.blk 1 rfl) rfl (by unfold maxLen; omega)); clear hzc hle7 hzok hs7 xe yB)
    | (refine aC rfl _ _ rfl tCl i0 _ z.cells rfl Tryz.underlying45 HI.out.1 HI.out.2.1 (HI.out.2.2.1.trans rfl) (by rw [ClmE.len]; decide) (by rw [ClmE.len]; decide) ?_)
    | (at_builtin; refine ar _ rfl _ _ 45 rfl tCl i0 _ 16 184 Tryz.underlying45 HI.out.1 HI.out.2.1 HI.out.2.2.1 HI.out.2.2.2 rfl _ j _ rfl td.out _ 1 _ rfl xg.out (by simpa using ClmE.one z) (by unfold maxLen; omega) (by omega) ?_; intro v8 w8 hs8 h8; have tj := BO hs8; clear hs8 h8 td xg))
   go_roundw
   case rel =>
    refine ⟨j + 1, v8, D7, zs ++ [z], by go_num, rfl, by omega, tt.out.trans tq.out, by rw [List.length_append, yO.out]; rfl, ?_, ?_, ?_⟩
    ·rw [List.map_append, A4.out, uu.out, ← vU.out]; rfl
    ·intro y hy
     rcases List.mem_append.1 hy with hy | hy
     ·exact (xN.out y hy).mono tq.out
     ·obtain rfl := List.mem_singleton.1 hy
      exact An.out
    ·have h9 := tj.out.rm2.rm2
     rw [List.flatMap_append]
     have h10 : Sat B D7 w8 (aJ tCl 16 v8 (j + 1) (zs.flatMap ClmE.cells ++ z.cells) :: b7 D L ts room m :: aJ tCl 16 (.slice (some ⟨g, og, none⟩) N vc) N (cs.flatMap ClmE.cells) :: l) := by simpa using ((tj.out.front 1 rfl).drop.front 1 rfl).drop
     simpa using h10
   case measure => simp [intOf]; omega
  ·have hii : ¬ ((j : Int) < (N : Int)) := by omega
   obtain rfl : j = N := by omega
   have uu := BO (show (aE m.q o).take j = aE m.q o by rw [List.take_of_length_le (by have := uj.out; have := HN.out; omega)])
   go_wp2_with fail
   go_ret
   refine ⟨_, D2, rfl, tt.out, mH zs (by rw [A4.out, uu.out]) xN.out ?_⟩
   rw [yO.out]
   exact sY.out.rm2
end
abbrev gN (m n : Int) : ClmE := ⟨2, 0, m, ⟨false, n, ⟨#[]⟩⟩, none, 0, 0, [], pr0⟩
abbrev iV (m n : Int) : Clm := ⟨2, 0, m, ⟨false, n, ⟨#[]⟩⟩, [], .mk 0 0 ⟨false, 0, ⟨#[]⟩⟩ ⟨false, 0, ⟨#[]⟩⟩ []⟩
theorem mg (D : PH) (m n : Int) : ClOk D (gN m n) := ⟨(l4 D).1, gb D⟩
theorem gK (N : Nat) (m n : Int) : ClmSm N (iV m n) := ⟨Nat.zero_le _, fun r hr => (by cases hr), .mk _ _ _ _ [] (Nat.zero_le _) (fun q hq => (by cases hq))⟩
theorem iZ : pr0.p.nodes.length ≤ 1000000 := by show (PredT.nodes (.mk 0 0 ⟨false, 0, ⟨#[]⟩⟩ ⟨false, 0, ⟨#[]⟩⟩ [])).length ≤ _; rw [gd]; simp
theorem me {m n : Int} (hm : m = 3 ∨ m = 5 ∨ m = 6) : bK [[false]] (iV m n) = true := by
 unfold bK dC cm
 rcases hm with rfl | rfl | rfl <;> simp [a9, fA]
theorem mq {N : Nat} : ∀ e ∈ ([] : List (Ent Clm)), ClmSm N e.c := fun e he => by cases he
theorem lX {N : Nat} {a : Ent Clm} {l : List (Ent Clm)} (h : ClmSm N a.c) (t : ∀ e ∈ l, ClmSm N e.c) : ∀ e ∈ a :: l, ClmSm N e.c := fun e he => by
 rcases List.mem_cons.1 he with rfl | he
 ·exact h
 ·exact t e he
theorem kX (w : World) (m n : Int) : (Instr.build tCl #[(0, .int .i64 2), (2, .int .i64 m), (3, .agg #[.bool false, .int .i64 n, .string ⟨#[]⟩])]).run Tryz.prog w = .ok (.agg (gN m n).cells.toArray) w := run_build w _ _ _ (by kernel_rfl)
theorem iI {w : World} {o : Oper} {a : Act} {ops : Array Oper} {rest : List Oper} {Q : Exit → Act → World → Prop} (hgd : o.guard = none) (x0 x2 x3 : Operand) (ho : o.op = .build tCl #[(0, x0), (2, x2), (3, x3)]) (m n : Int) (h0 : a.eval x0 = .int .i64 2) (h2 : a.eval x2 = .int .i64 m) (h3 : a.eval x3 = .agg #[.bool false, .int .i64 n, .string ⟨#[]⟩])
  (h : wpList Tryz.prog ops Q rest (a.put o.dst (.agg (gN m n).cells.toArray)) w) : wpList Tryz.prog ops Q (o :: rest) a w :=
 wpList_plain hgd fun _ hK => by
  have hrun := kX w m n
  unfold Oper.wp execOp
  simp only [ho, List.map_toArray, List.map_cons, List.map_nil, h0, h2, h3, Sem.run_bind, Sem.run_pure, Result.andThen_ok, hrun]
  exact hK _ _ h
theorem nY {w : World} (m n : Int) : Calls Tryz.prog 13 #[.int .i64 m, .int .i64 n] w fun e w' => e = .returned (.agg (gN m n).cells.toArray) ∧ Kept (fun _ => False) w w' := by
 have hk : Kept (fun _ => False) w (w.alloc (.cells (gN m n).cells.toArray tCl)) := (Kept.refl _ _).alloc _
 have HK := BO hk
 have HL := BO (ay (ai (aB w (.cells (gN m n).cells.toArray tCl))))
 clear hk
 go_enter Tryz.func13, Tryz.ntmps13
 go_wp2_with (first | (refine iI rfl _ _ _ rfl m n rfl rfl rfl ?_) | (refine ax rfl _ _ _ rfl (gN m n).cells _ _ rfl rfl (by kernel_rfl) rfl (ClmE.one _) ?_))
 refine bodyPost_ret (cC rfl _ _ rfl HL.out) rfl ?_
 exact ⟨rfl, HK.out⟩
theorem jS {w : World} {v1 v2 : Value} {l1 l2 : List Int} {r : Bool} (h1 : j7 w v1 l1) (h2 : j7 w v2 l2) (hr : decide (l1 = l2) = r) :
  Calls Tryz.prog 30 #[v1, v2] w fun e w' => e = .returned (.bool r) ∧ Kept (fun _ => False) w w' := by
 refine (Ints_ok h1 h2).mono ?_
 rintro e w' ⟨rfl, n, rfl⟩
 exact ⟨by rw [hr], (Kept.refl _ _).drewN n⟩
theorem newInt {B w : World} {D : PH} {l : List HP} (h : Sat B D w l) (n : Int) : Sat B D (w.alloc (.cells #[.int .i64 n] 3)) (blk w.heap.size #[.int .i64 n] 3 :: l) ∧ j7 (w.alloc (.cells #[.int .i64 n] 3)) (.slice (some ⟨w.heap.size, 0, none⟩) 1 1) [n] := by
 have h1 := h.alloc #[.int .i64 n] 3
 exact ⟨h1, aT (size := 1) (n := 1) (h1.blk 0 rfl) rfl (by unfold maxLen; omega)⟩
theorem rT {B w : World} {D : PH} {l : List HP} (h : Sat B D w l) : ∃ D', PH.le D D' ∧ TblsAt D' (.slice (some ⟨w.heap.size + 1, 0, none⟩) 1 1) [[false]] ∧ Sat B D' ((w.alloc (.cells #[.bool false] tB)).alloc (.cells #[.slice (some ⟨w.heap.size, 0, none⟩) 1 1] dz)) l := by
 have h1 := Sat.own_fresh (e := tB) (size := 1) (n := 1) (cap := 1) (cs := #[.bool false]) (xs := [.bool false]) h (by omega) (by unfold maxLen; omega) (by simp) rfl (by intro u hu; simp at hu; subst hu; rfl)
 obtain ⟨D1, hle1, hrd1, hs1⟩ := h1.own_give
 have h2 := Sat.own_fresh (e := dz) (size := 1) (n := 1) (cap := 1) (cs := #[.slice (some ⟨w.heap.size, 0, none⟩) 1 1]) (xs := [.slice (some ⟨w.heap.size, 0, none⟩) 1 1]) hs1 (by omega) (by unfold maxLen; omega) (by simp) rfl (by intro u hu; simp at hu; subst hu; rfl)
 rw [World.size_alloc] at h2
 obtain ⟨D2, hle2, hrd2, hs2⟩ := h2.own_give
 refine ⟨D2, hle1.trans hle2, ⟨[.slice (some ⟨w.heap.size, 0, none⟩) 1 1], rfl, (by intro u hu; simp at hu; subst hu; rfl), hrd2, fun i u r a b => ?_⟩, hs2⟩
 cases i with
 | zero =>
  simp at a b
  subst a; subst b
  exact hrd1.mono hle2
 | succ i => simp at a
end Go.Proofs.YtgljdkjepdknnaaGreatDoor
