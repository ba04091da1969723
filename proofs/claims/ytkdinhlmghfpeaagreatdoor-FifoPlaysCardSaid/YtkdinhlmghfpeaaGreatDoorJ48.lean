/- A queue behind a script (ratlinelaw10.behind). -/
import Derived.Test.YtkdinhlmghfpeaaGreatDoorJ47
import Derived.Test.YtkdinhlmghfpeaaGreatDoorJ42
namespace Go.Proofs.YtkdinhlmghfpeaaGreatDoor
open Go.ChangeShapes Go.WideShapes Go.ChangeAt Go.RowKit
set_option maxRecDepth 100000
set_option linter.unusedSimpArgs false

noncomputable def stepQ (Q : Qm Clm) (a : ActE) : Qm Clm := if fewB a.x.c then doneA Q a else Q
noncomputable def runQ (l : List ActE) : Qm Clm := l.foldl stepQ ⟨[], []⟩
theorem runQ_snoc {l : List ActE} {j : Nat} {a : ActE} (h : l[j]? = some a) : runQ (l.take (j + 1)) = stepQ (runQ (l.take j)) a := by
  unfold runQ
  rw [List.take_add_one, h, List.foldl_append]
  rfl
/-- what each step of a script keeps -/
theorem runQ_ind {P : Nat → Qm Clm → Prop} {l : List ActE} (h0 : P 0 ⟨[], []⟩) (step : ∀ n Q a, a ∈ l → P n Q → P (n + 1) (stepQ Q a)) : P l.length (runQ l) := by
  have key : ∀ (m : List ActE) (n : Nat) (Q : Qm Clm), (∀ a ∈ m, a ∈ l) → P n Q → P (n + m.length) (m.foldl stepQ Q) := by
    intro m
    induction m with
    | nil => intro n Q _ h; exact h
    | cons a m ih =>
      intro n Q hm h
      have := ih (n + 1) (stepQ Q a) (fun x hx => hm x (List.mem_cons_of_mem _ hx)) (step n Q a (hm a (by simp)) h)
      rw [List.length_cons, show n + (m.length + 1) = n + 1 + m.length by omega]
      exact this
  have := key l 0 ⟨[], []⟩ (fun _ h => h) h0
  rwa [Nat.zero_add] at this
theorem doneA_sc {n : Nat} {Q : Qm Clm} (h : ScOk n Q) (a : ActE) (hf : ClmFit a.x.c) (hfew : fewB a.x.c = true) : ScOk (n + 1) (doneA Q a) := by
  obtain ⟨o, ho, ho7⟩ := and7n a.owner
  unfold doneA
  rw [ho]
  unfold doneQ
  split
  · exact ask_sc h ⟨by omega, by omega⟩ hf hfew true
  · split
    · exact ask_sc h ⟨by omega, by omega⟩ hf hfew false
    · split
      · exact (leave_sc h _).mono (Nat.le_succ n)
      · split
        · exact (drop_sc h _).mono (Nat.le_succ n)
        · exact (drop_sc h _).mono (Nat.le_succ n)
theorem sc_nil : ScOk 0 ⟨[], []⟩ := ⟨⟨List.Pairwise.nil, List.Pairwise.nil⟩, ⟨fun e he => (by cases he), fun e he => (by cases he)⟩, Nat.le_refl _⟩
theorem stepQ_sc {n : Nat} {Q : Qm Clm} (h : ScOk n Q) (a : ActE) (hf : ClmFit a.x.c) : ScOk (n + 1) (stepQ Q a) := by
  unfold stepQ
  split
  · rename_i hfew; exact doneA_sc h a hf hfew
  · exact h.mono (Nat.le_succ n)
theorem runQ_sc {l : List ActE} (h : ∀ a ∈ l, ClmFit a.x.c) : ScOk l.length (runQ l) := runQ_ind (P := ScOk) sc_nil (fun _ _ a ha hP => stepQ_sc hP a (h a ha))
def BehindGot (B : World) (D : PH) (l : List HP) (acts : List ActE) (r : Ending) (w' : World) : Prop := ∃ (q : Nat) (D' : PH), r = .returned (.pointer (some ⟨q, 0, none⟩)) ∧ PH.le D D' ∧ Sat B D' w' (queC D' q (runQ (acts.take 40)) :: l)
set_option maxHeartbeats 8000000 in
theorem behind_ok {B w : World} {D : PH} {l : List HP} {v : Value} {acts : List ActE} (hE : EnvD D) (hv : ActsD D v acts) (s : Sat B D w l) :
    Calls Tryz.prog 22 #[v] w (BehindGot B D l acts) := by
  obtain ⟨a, c, rfl, hN⟩ := hv.shape
  have HNEW := Lib.hid (Claims_new s)
  have HE := Lib.hid hE
  have HV := Lib.hid hv
  clear s hE hv
  go_enter Tryz.func22, Tryz.ntmps22
  go_upto_region 3 with (go_at_call 25; refine HNEW.out.mono ?_; rintro e1 w1 ⟨q, rfl, hs1⟩; have HS1 := Lib.hid (hs1.alloc nQ tRq); clear hs1 HNEW)
  obtain ⟨W2, hW2, hs2⟩ := Sat.hide HS1.out
  rw [← hW2]
  clear hW2 HS1
  generalize w1.heap.size = b4 at hs2 ⊢
  have HS2 := Lib.hid hs2
  clear hs2
  go_wp2_with fail
  go_loopw [5] (fun ii wr => ∃ (j : Nat) (D1 : PH) (hv wv : Value), ii = .int .i64 j ∧ j ≤ acts.length ∧ j ≤ 40 ∧ PH.le D D1 ∧ QueD D1 (.agg #[hv, wv]) (runQ (acts.take j)) ∧ Sat B D1 wr (blk b4 #[hv, wv] tRq :: queC D1 q (runQ (acts.take j)) :: l)) (fun ii _ => 40 - (intOf ii).toNat)
  case atStart => exact ⟨0, D, .slice none 0 0, .slice none 0 0, rfl, Nat.zero_le _, by omega, PH.le.refl _, ⟨_, _, [], [], rfl, ⟨RdP.nil D 18, fun e he => by cases he⟩, ⟨RdP.nil D 18, fun e he => by cases he⟩, rfl, rfl⟩, HS2.out⟩
  case round =>
    obtain ⟨j, D1, hv, wv, rfl, hj, hj40, hle, hq, hs⟩ := hrel
    have HLE := Lib.hid hle
    have HQ := Lib.hid hq
    have HS := Lib.hid hs
    clear hle hq hs HS2
    by_cases hlt : j < acts.length ∧ j < 40
    · have hji : (j : Int) < (acts.length : Int) := by omega
      have hji2 : (j : Int) < 40 := by omega
      obtain ⟨x, hx⟩ : ∃ x, acts[j]? = some x := ⟨acts[j]'hlt.1, List.getElem?_eq_getElem _⟩
      obtain ⟨g, og, hg, hr, hr2, hok, hfit⟩ := actAt (HV.out.mono HLE.out) HS.out rfl hx
      subst hg
      have HSC := Lib.hid (show ScOk (acts.take j).length (runQ (acts.take j)) from runQ_sc (fun y hy => (HV.out.2 y (List.mem_of_mem_take hy)).2))
      have hsl : (acts.take j).length ≤ 900 := by rw [List.length_take]; omega
      have HSN := Lib.hid (runQ_snoc hx)
      have HX := Lib.hid hx
      have HOK := Lib.hid hok
      have HFIT := Lib.hid hfit
      have HL := Lib.hid (loadCl hr2)
      have HFW := Lib.hid (few_ok (hok.rd HS.out))
      clear hx hr hr2 hok hfit
      cases hfew : fewB x.x.c
      · rw [hfew] at HFW
        have HST := Lib.hid (show runQ (acts.take (j + 1)) = runQ (acts.take j) by rw [HSN.out]; unfold stepQ; rw [hfew]; rfl)
        clear hfew
        go_wp2_with (first | (refine wpList_ld rfl _ _ rfl _ _ rfl _ HL.out ?_) | (go_at_call 26; refine HFW.out.mono ?_; rintro e5 w5 ⟨rfl, hk5⟩; have HS5 := Lib.hid (HS.out.kept hk5); clear hk5 HS HFW HL))
        go_roundw
        case rel => exact ⟨j + 1, D1, hv, wv, by go_num, by omega, by omega, HLE.out, by rw [HST.out]; exact HQ.out, by rw [HST.out]; exact HS5.out⟩
        case measure => simp [intOf]; omega
      · rw [hfew] at HFW
        have HST := Lib.hid (show runQ (acts.take (j + 1)) = doneA (runQ (acts.take j)) x by rw [HSN.out]; unfold stepQ; rw [hfew]; rfl)
        have HF := Lib.hid hfew
        clear hfew
        go_upto_region 8 with (first | (refine wpList_ld rfl _ _ rfl _ _ rfl _ HL.out ?_) | (go_at_call 26; refine HFW.out.mono ?_; rintro e5 w5 ⟨rfl, hk5⟩; have HS5 := Lib.hid (HS.out.kept hk5).drew; clear hk5 HS HFW HL))
        obtain ⟨g2, og2, hg2, hr, _⟩ := actAt (HV.out.mono HLE.out) HS5.out rfl HX.out
        cases hg2
        have HLA := Lib.hid (loadAct hr)
        have HLQ := Lib.hid (loadQ2 (blk_range (HS5.out.blk 0 rfl)))
        have HDN := Lib.hid (done_ok x (HE.out.mono HLE.out) HQ.out HSC.out hsl HOK.out HFIT.out HF.out HS5.out.swap)
        clear hr
        refine wp_region_canon [(0, false, 6), (1, false, 6), (2, false, 6), (3, false, 6), (4, false, 6), (5, false, 6), (6, true, 0), (7, false, 10), (8, false, 10), (9, false, 999), (10, true, 0)] (by kernel_rfl) (by kernel_rfl) ?_
        iterate 6 (refine wpCan_read rfl rfl (fun K hK => ?_); (first | ((refine still_ld _ _ rfl _ _ rfl _ HLQ.out ?_); go_simp) | ((refine still_ld _ _ rfl _ _ rfl _ HLA.out ?_); go_simp) | go_simp); refine hK _ ?_; clear hK K)
        refine wpCan_eff rfl ?_
        refine wpList_do rfl (fun K hK => ?_)
        go_simp
        refine HDN.out.mono ?_
        rintro e6 w6 ⟨v6, D6, rfl, hle6, hq6, hs6⟩
        have HQ6 := Lib.hid hq6
        obtain ⟨hv2, wv2, hs2, ws2, rfl, hH2, hW2, _, _⟩ := hq6
        have HO2 := Lib.hid (show ∀ u ∈ [hv2, wv2], u.oneCell' = true from fun u hu => by simp at hu; rcases hu with rfl | rfl; exact hH2.1.oneV; exact hW2.1.oneV)
        have HLE6 := Lib.hid hle6
        have HS6 := Lib.hid hs6.swap
        clear hle6 hs6 hH2 hW2 HDN HLA HLQ HS5
        refine hK _ _ ?_
        clear hK K
        refine wpList_nil ?_
        refine And.intro ?_ ?_
        · go_simp
        iterate 3 (refine wpCan_read rfl rfl (fun K hK => ?_); (first | ((refine still_ld _ _ rfl _ _ rfl _ HLQ.out ?_); go_simp) | ((refine still_ld _ _ rfl _ _ rfl _ HLA.out ?_); go_simp) | go_simp); refine hK _ ?_; clear hK K)
        refine wpCan_eff rfl ?_
        refine wpList_store_whole rfl _ _ _ rfl tRq b4 rfl [hv2, wv2] rfl _ HS6.out (by kernel_rfl) rfl HO2.out ?_
        intro w9 hs9
        have HS9 := Lib.hid hs9
        clear hs9 HS6
        refine wpList_nil ?_
        refine And.intro ?_ ?_
        · go_simp
        refine wpCan_nil ?_
        go_wp2_with fail
        go_roundw
        case rel => exact ⟨j + 1, D6, hv2, wv2, by go_num, by omega, by omega, HLE.out.trans HLE6.out, by rw [HST.out]; exact HQ6.out, by rw [HST.out]; exact HS9.out⟩
        case measure => simp [intOf]; omega
    · have HT := Lib.hid (show acts.take j = acts.take 40 by
        by_cases h1 : j < acts.length
        · rw [show j = 40 by omega]
        · rw [List.take_of_length_le (by omega), List.take_of_length_le (by omega)])
      by_cases h1 : j < acts.length
      · have hji : (j : Int) < (acts.length : Int) := by omega
        have hji2 : ¬ ((j : Int) < 40) := by omega
        go_wp2_with fail
        go_ret
        exact ⟨q, D1, rfl, HLE.out, by rw [← HT.out]; exact HS.out.drop⟩
      · have hji : ¬ ((j : Int) < (acts.length : Int)) := by omega
        go_wp2_with fail
        go_ret
        exact ⟨q, D1, rfl, HLE.out, by rw [← HT.out]; exact HS.out.drop⟩
end Go.Proofs.YtkdinhlmghfpeaaGreatDoor
