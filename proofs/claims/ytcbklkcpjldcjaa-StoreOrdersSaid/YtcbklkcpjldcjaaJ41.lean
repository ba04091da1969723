/- Joined texts: The document's answer for the store (ratlineref06): Free, Scan. The document's answers: Rows (ratlineref02), May (ratlineref06). -/
import Derived.Test.YtcbklkcpjldcjaaJ40
/- The document's answer for the store (ratlineref06): Free, Scan. -/
namespace Go.Proofs.Ytcbklkcpjldcjaa
open Go.ChangeShapes Go.WideShapes Go.ChangeAt Go.RowKit
set_option maxRecDepth 100000
set_option linter.unusedSimpArgs false

def rFre (cs : List (List Bool)) (L : List Pl) (t : Int) (k : Val) : List Pl × Int :=
  if decide (0 ≤ t) && decide (t < (cs.length : Int)) then (if rgot L t k then (L, 60) else if atN L t k < 0 then (L, 61) else (L.eraseIdx (atN L t k).toNat, 0)) else (L, 1)
theorem er_keep {α : Type} {L : List α} {i j : Nat} {q : α} (hq : L[j]? = some q) (h : j ≠ i) : (L.take (j + 1)).eraseIdx i = (L.take j).eraseIdx i ++ [q] := by
  have hlt := (List.getElem?_eq_some_iff.1 hq).1
  rw [List.take_add_one, hq]
  show (L.take j ++ [q]).eraseIdx i = _
  by_cases hji : j < i
  · rw [List.eraseIdx_of_length_le (by rw [List.length_append, List.length_take]; simp; omega), List.eraseIdx_of_length_le (by rw [List.length_take]; omega)]
  · rw [List.eraseIdx_append_of_lt_length (by rw [List.length_take]; omega)]
theorem er_drop {α : Type} {L : List α} {j : Nat} {q : α} (hq : L[j]? = some q) : (L.take (j + 1)).eraseIdx j = (L.take j).eraseIdx j := by
  have hlt := (List.getElem?_eq_some_iff.1 hq).1
  have e : (L.take j).length = j := by rw [List.length_take]; omega
  rw [List.take_add_one, hq]
  show (L.take j ++ [q]).eraseIdx j = _
  have e2 : (L.take j).eraseIdx j = L.take j := List.eraseIdx_of_length_le (by omega)
  rw [List.eraseIdx_append_of_length_le (by omega), e, Nat.sub_self, e2]
  simp

set_option maxHeartbeats 8000000 in
theorem rFre_ok {B w : World} {D : PH} {tv lv : Value} {cs : List (List Bool)} {room last : Int} {L : List Pl} {l : List HP} (t : Int) (k : Val) (hT : TabsD D tv cs) (hF : LOk L) (h : Sat B D w (plsP lv L :: l)) :
    Calls Try.prog 44 #[refV tv room lv last, .int .i64 t, k.v] w fun e w' => ∃ v', e = .returned (.tuple #[refV tv room v' last, .int .i64 (rFre cs L t k).2]) ∧ Sat B D w' (plsP v' (rFre cs L t k).1 :: l) := by
  obtain ⟨la, lc, rfl⟩ := h.own_shape
  obtain ⟨ta, tc, rfl⟩ := hT.shape
  obtain ⟨wa, hwa, hsa⟩ := with_start h #[.slice ta cs.length tc, .int .i64 room, .slice la L.length lc, .int .i64 last] #[.bool k.t, .int .i64 k.n, .string k.s] #[.slice none 0 0, .int .i64 0, .slice none 0 0, .int .i64 0] tRf tV tRf
  have HS := Lib.hid hsa
  have HWA := Lib.hid hwa
  have hLN := hF.2.2
  obtain ⟨i0, hi, hz0, hz1, hz2⟩ := info_parts infoPl
  have HI := Lib.hid (And.intro hi (And.intro hz0 (And.intro hz1 hz2)))
  clear h hwa hsa hF hT hi hz0 hz1 hz2
  dsimp only [Val.v]
  go_enter Try.func44, Try.ntmps44
  go_upto_region 1 with (fail)
  rw [← HWA.out]
  clear HWA
  generalize w.heap.size + 1 + 1 = br at HS ⊢
  generalize w.heap.size + 1 = bk at HS ⊢
  generalize w.heap.size = bs at HS ⊢
  obtain ⟨b0, b1, b2, b3, bf⟩ := cells4 (HS.out.blk 2 rfl); obtain ⟨z0, z1, z2, z3, zf⟩ := cells4 (HS.out.blk 0 rfl); obtain ⟨x0, x1, x2, xf⟩ := cells3 (HS.out.blk 1 rfl)
  by_cases h0 : t < 0
  · have HD := Lib.hid (show rFre cs L t k = (L, 1) by unfold rFre; rw [if_neg (by simp; omega)])
    have HE := Lib.hid (Sat.set4 HS.out (.slice ta cs.length tc) (.int .i64 room) (.slice la L.length lc) (.int .i64 last))
    go_wp2_with fail
    obtain ⟨e0, e1, e2, e3, _⟩ := cells4 (HE.out.blk 0 rfl)
    try simp only [Exit.inBlock, Exit.then]
    refine bodyPost_ret (results_rf2 rfl _ _ rfl e0 e1 e2 e3) rfl ?_
    rw [HD.out]
    exact ⟨_, rfl, HE.out.drop.drop.drop⟩
  by_cases h2 : t ≥ (cs.length : Int)
  · have HD := Lib.hid (show rFre cs L t k = (L, 1) by unfold rFre; rw [if_neg (by simp; omega)])
    have HE := Lib.hid (Sat.set4 HS.out (.slice ta cs.length tc) (.int .i64 room) (.slice la L.length lc) (.int .i64 last))
    go_wp2_with fail
    obtain ⟨e0, e1, e2, e3, _⟩ := cells4 (HE.out.blk 0 rfl)
    try simp only [Exit.inBlock, Exit.then]
    refine bodyPost_ret (results_rf2 rfl _ _ rfl e0 e1 e2 e3) rfl ?_
    rw [HD.out]
    exact ⟨_, rfl, HE.out.drop.drop.drop⟩
  have HU := Lib.hid (show rFre cs L t k = (if rgot L t k then (L, 60) else if atN L t k < 0 then (L, 61) else (L.eraseIdx (atN L t k).toNat, 0)) by unfold rFre; rw [if_pos (by simp; omega)])
  rcases rgetV_is L t k with ⟨hg, xv, hx⟩ | ⟨hg, hx⟩
  · have HG := Lib.hid hx
    have HD := Lib.hid (HU.out.trans (by rw [hg]; rfl) : rFre cs L t k = (L, 60))
    clear hx hg
    go_wp2_with (go_at_call 23; refine (rGet_ok t k (HS.out.own 3 rfl).rd).mono ?_; rw [HG.out]; rintro e2 w2 ⟨rfl, hk2⟩; have HS2 := Lib.hid (HS.out.kept hk2); clear hk2 b0 b1 b2 b3 bf z0 z1 z2 z3 zf x0 x1 x2 xf; obtain ⟨b0, b1, b2, b3, bf⟩ := cells4 (HS2.out.blk 2 rfl); obtain ⟨z0, z1, z2, z3, zf⟩ := cells4 (HS2.out.blk 0 rfl); obtain ⟨x0, x1, x2, xf⟩ := cells3 (HS2.out.blk 1 rfl); have HE := Lib.hid (Sat.set4 HS2.out (.slice ta cs.length tc) (.int .i64 room) (.slice la L.length lc) (.int .i64 last)))
    obtain ⟨e0, e1, e2, e3, _⟩ := cells4 (HE.out.blk 0 rfl)
    try simp only [Exit.inBlock, Exit.then]
    refine bodyPost_ret (results_rf2 rfl _ _ rfl e0 e1 e2 e3) rfl ?_
    rw [HD.out]
    exact ⟨_, rfl, HE.out.drop.drop.drop⟩
  have HG := Lib.hid hx
  have HGO := Lib.hid hg
  clear hx hg
  go_upto_region 6 with (go_at_call 23; refine (rGet_ok t k (HS.out.own 3 rfl).rd).mono ?_; rw [HG.out]; rintro e2 w2 ⟨rfl, hk2⟩; have HS2 := Lib.hid (HS.out.kept hk2); clear hk2 b0 b1 b2 b3 bf z0 z1 z2 z3 zf x0 x1 x2 xf; obtain ⟨b0, b1, b2, b3, bf⟩ := cells4 (HS2.out.blk 2 rfl); obtain ⟨z0, z1, z2, z3, zf⟩ := cells4 (HS2.out.blk 0 rfl); obtain ⟨x0, x1, x2, xf⟩ := cells3 (HS2.out.blk 1 rfl))
  rcases atN_cases L t k with ⟨ha, -⟩ | ⟨i, pi, ha, hi, -, -⟩
  · have HA := Lib.hid ha
    have HD := Lib.hid (HU.out.trans (by rw [HGO.out, ha]; rfl) : rFre cs L t k = (L, 61))
    clear ha
    go_wp2_with (go_at_call 45; refine (rAt_ok t k (HS2.out.own 3 rfl).rd).mono ?_; rw [HA.out]; rintro e3 w3 ⟨rfl, hk3⟩; have HS3 := Lib.hid (HS2.out.kept hk3); clear hk3 b0 b1 b2 b3 bf z0 z1 z2 z3 zf x0 x1 x2 xf; obtain ⟨b0, b1, b2, b3, bf⟩ := cells4 (HS3.out.blk 2 rfl); obtain ⟨z0, z1, z2, z3, zf⟩ := cells4 (HS3.out.blk 0 rfl); obtain ⟨x0, x1, x2, xf⟩ := cells3 (HS3.out.blk 1 rfl); have HE := Lib.hid (Sat.set4 HS3.out (.slice ta cs.length tc) (.int .i64 room) (.slice la L.length lc) (.int .i64 last)))
    obtain ⟨e0, e1, e2, e3, _⟩ := cells4 (HE.out.blk 0 rfl)
    try simp only [Exit.inBlock, Exit.then]
    refine bodyPost_ret (results_rf2 rfl _ _ rfl e0 e1 e2 e3) rfl ?_
    rw [HD.out]
    exact ⟨_, rfl, HE.out.drop.drop.drop⟩
  have HA := Lib.hid ha
  have hni : ¬ ((i : Int) < 0) := by omega
  have HD := Lib.hid (HU.out.trans (by rw [HGO.out, ha]; simp [hni]) : rFre cs L t k = (L.eraseIdx i, 0))
  clear ha
  go_upto_region 9 with (go_at_call 45; refine (rAt_ok t k (HS2.out.own 3 rfl).rd).mono ?_; rw [HA.out]; rintro e3 w3 ⟨rfl, hk3⟩; have HS3 := Lib.hid (HS2.out.kept hk3); clear hk3 b0 b1 b2 b3 bf z0 z1 z2 z3 zf x0 x1 x2 xf; obtain ⟨b0, b1, b2, b3, bf⟩ := cells4 (HS3.out.blk 2 rfl); obtain ⟨z0, z1, z2, z3, zf⟩ := cells4 (HS3.out.blk 0 rfl); obtain ⟨x0, x1, x2, xf⟩ := cells3 (HS3.out.blk 1 rfl))
  have HS4 := Lib.hid (HS3.out.own_nil tPl 6)
  clear b0 b1 b2 b3 bf z0 z1 z2 z3 zf x0 x1 x2 xf
  clear HS HS2 HS3 HU HG HGO
  obtain ⟨N, hN⟩ : ∃ N, L.length = N := ⟨_, rfl⟩
  have HN := Lib.hid hN
  rw [hN] at hLN hi
  clear hN
  go_wp2_with fail
  go_loopw [12, 13] (fun out iv wr => ∃ (j : Nat), iv = .int .i64 j ∧ j ≤ N ∧ Sat B D wr (plsP out ((L.take j).eraseIdx i) :: blk br #[.slice none 0 0, .int .i64 0, .slice none 0 0, .int .i64 0] tRf :: blk bk #[.bool k.t, .int .i64 k.n, .string k.s] tV :: blk bs #[.slice ta cs.length tc, .int .i64 room, .slice la L.length lc, .int .i64 last] tRf :: plsP (.slice la L.length lc) L :: l)) (fun _ iv _ => N - (intOf iv).toNat)
  case atStart => exact ⟨0, rfl, by omega, HS4.out⟩
  case round =>
    obtain ⟨j, rfl, hj, hs⟩ := hrel
    obtain ⟨o1, c1, rfl⟩ := hs.own_shape
    have hl1 : ((L.take j).eraseIdx i).length ≤ j := by
      have h1 := List.length_eraseIdx_le (L.take j) i
      rw [List.length_take] at h1
      omega
    obtain ⟨b0, b1, b2, b3, bf⟩ := cells4 (hs.blk 3 rfl); obtain ⟨z0, z1, z2, z3, zf⟩ := cells4 (hs.blk 1 rfl); obtain ⟨x0, x1, x2, xf⟩ := cells3 (hs.blk 2 rfl)
    rw [HN.out] at b2
    by_cases hlt : j < N
    · obtain ⟨q, hq⟩ : ∃ q, L[j]? = some q := ⟨L[j]'(by rw [HN.out]; exact hlt), List.getElem?_eq_getElem _⟩
      have hrd := (hs.own 4 rfl).rd
      rw [HN.out] at hrd
      obtain ⟨g, og, rfl⟩ := pl_src hrd hq HN.out
      obtain ⟨y0, y1, y2, y3, y4, y5⟩ := pl_cells hrd hq
      have hij : (j : Int) < (N : Int) := by omega
      have HQ := Lib.hid hq
      clear hrd hq
      by_cases hji : j = i
      · subst hji
        have HT := Lib.hid (er_drop HQ.out)
        have HSJ := Lib.hid hs
        clear hs hl1
        go_wp2_with fail
        go_roundw
        case rel => exact ⟨j + 1, by go_num, by omega, by rw [HT.out]; exact HSJ.out⟩
        case measure => simp [intOf]; omega
      · have hne : ((j : Int) == (i : Int)) = false := by simp; omega
        have HT := Lib.hid (er_keep (i := i) HQ.out hji)
        generalize hc : (L.take j).eraseIdx i = C at hl1 hs
        have HC := Lib.hid hc
        clear hc
        generalize hcl : C.length = M at hl1
        have HCL := Lib.hid hcl
        have HS2 := Lib.hid (show Sat B D wr (ownS tPl 6 (.slice o1 M c1) M (C.flatMap Pl.cells) :: _) by have := hs; unfold plsP at this; rw [hcl] at this; exact this)
        clear hcl hji hs
        have HSN := Lib.hid (plsnoc_src HS2.out q)
        have HPO := Lib.hid (pl_one q)
        go_wp2_with ((at_builtin; refine wpList_append_Sat _ rfl _ _ tPls rfl tPl i0 _ 6 72 Try.underlying54 HI.out.1 HI.out.2.1 HI.out.2.2.1 HI.out.2.2.2 rfl _ _ _ rfl (HSN.out.1 0) _ 1 _ rfl (HSN.out.2 0) HPO.out (by unfold maxLen; omega) (by omega) ?_; intro v2 w2 h2 h2o; have H2 := Lib.hid (h2.swap.drop); clear h2 h2o b0 b1 b2 b3 bf z0 z1 z2 z3 zf x0 x1 x2 xf y0 y1 y2 y3 y4 y5))
        go_roundw
        case rel => exact ⟨j + 1, by go_num, by omega, by rw [HT.out, HC.out]; exact pls_snoc HCL.out H2.out⟩
        case measure => simp [intOf]; omega
    · have h0' : ¬ (j : Int) < (N : Int) := by omega
      have HS2 := Lib.hid (show Sat B D wr (plsP (.slice o1 (L.eraseIdx i).length c1) (L.eraseIdx i) :: _) by have := hs; rw [List.take_of_length_le (by rw [HN.out]; omega)] at this; exact this)
      have HLL := Lib.hid (show ((L.take j).eraseIdx i).length = (L.eraseIdx i).length by rw [List.take_of_length_le (by rw [HN.out]; omega)])
      have HEND := Lib.hid (with_end (u := .slice o1 (L.eraseIdx i).length c1) HS2.out)
      clear hs hl1
      go_upto_region 15 with (fail)
      rw [HLL.out]
      clear b0 b1 b2 b3 bf z0 z1 z2 z3 zf x0 x1 x2 xf
      obtain ⟨b0, b1, b2, b3, bf⟩ := cells4 (HS2.out.blk 3 rfl)
      go_upto_region 16 with (fail)
      have HS5 := Lib.hid HEND.out.1
      have HEN := Lib.hid HEND.out.2
      clear HEND b0 b1 b2 b3 bf
      revert HS5
      generalize World.setCell _ ⟨bs, 2, none⟩ _ = W5
      intro HS5
      have HE := Lib.hid (HEN.out _ HS5.out)
      obtain ⟨b0, b1, b2, b3, bf⟩ := cells4 (HS5.out.blk 0 rfl)
      obtain ⟨z0, z1, z2, z3, zf⟩ := cells4 (HS5.out.blk 1 rfl)
      go_wp2_with fail
      obtain ⟨e0, e1, e2, e3, _⟩ := cells4 (HE.out.blk 0 rfl)
      try simp only [Exit.inBlock, Exit.then]
      refine bodyPost_ret (results_rf2 rfl _ _ rfl e0 e1 e2 e3) rfl ?_
      rw [HD.out]
      exact ⟨_, rfl, HE.out.drop.drop.swap.drop.swap.drop⟩

/-- it is told -/
def scP (t : Int) (sp : Spn) (q : Pl) : Bool := decide (q.t = t) && spanIn sp q.k && decide (0 < q.rn)
theorem infoRow : (Try.prog.info? tR).map (fun i => (i.zero, i.size, i.bytes)) = some (some (.slice none 0 0), 1, 24) := by kernel_rfl
theorem fil_keep {α : Type} {p : α → Bool} {L : List α} {j : Nat} {x : α} (hx : L[j]? = some x) (hp : p x = true) : (L.take (j + 1)).filter p = (L.take j).filter p ++ [x] := by
  rw [List.take_add_one, hx, List.filter_append]
  simp [hp]
theorem fil_drop {α : Type} {p : α → Bool} {L : List α} {j : Nat} {x : α} (hx : L[j]? = some x) (hp : p x = false) : (L.take (j + 1)).filter p = (L.take j).filter p := by
  rw [List.take_add_one, hx, List.filter_append]
  simp [hp]
theorem hv_src {B w : World} {D : PH} {l : List HP} {A : HP} (h : Sat B D w (A :: l)) (x : Pl) :
    Sat B D (w.alloc (.cells #[.slice x.ro x.rn x.rc] tR)) (A :: blk w.heap.size #[.slice x.ro x.rn x.rc] tR :: l) ∧ Rd (w.alloc (.cells #[.slice x.ro x.rn x.rc] tR)) 1 (.slice (some ⟨w.heap.size, 0, none⟩) 1 1) 1 [x.hv] := by
  have h1 := h.alloc #[.slice x.ro x.rn x.rc] tR
  exact ⟨h1.swap, rd_block (size := 1) (n := 1) h1.heap_blk rfl (by unfold maxLen; omega)⟩

set_option maxHeartbeats 8000000 in
theorem rScan_ok {B w : World} {D : PH} {ta : Option Addr} {tn tc : Nat} {lv : Value} {room last : Int} {L : List Pl} {l : List HP} (t : Int) (sp : Spn) (hsp : sp.fits) (hF : LOk L) (h : Sat B D w (plsP lv L :: l)) :
    Calls Try.prog 24 #[refV (.slice ta tn tc) room lv last, .int .i64 t, sp.v] w fun e w' => ∃ v, e = .returned v ∧ Sat B D w' (ownS tR 1 v (L.filter (scP t sp)).length ((L.filter (scP t sp)).map Pl.hv) :: plsP lv L :: l) := by
  obtain ⟨la, lc, rfl⟩ := h.own_shape
  obtain ⟨wa, hwa, hsa⟩ := ref_start2 h #[.slice ta tn tc, .int .i64 room, .slice la L.length lc, .int .i64 last] sp.cells tRf tS
  have HS := Lib.hid (hsa.own_nil tR 1)
  have HWA := Lib.hid hwa
  have HSP := Lib.hid hsp
  have HFL := Lib.hid hF.1
  have hLN := hF.2.2
  obtain ⟨i0, hi, hz0, hz1, hz2⟩ := info_parts infoRow
  have HI := Lib.hid (And.intro hi (And.intro hz0 (And.intro hz1 hz2)))
  obtain ⟨N, hN⟩ : ∃ N, L.length = N := ⟨_, rfl⟩
  have HN := Lib.hid hN
  have HSL := Lib.hid (show Sat B D w (ownS tPl 6 (.slice la N lc) N (L.flatMap Pl.cells) :: l) by have := h; unfold plsP at this; rw [hN] at this; exact this)
  have HS := Lib.hid (show Sat B D wa (ownS tR 1 (.slice none 0 0) 0 [] :: blk (w.heap.size + 1) sp.cells tS :: blk w.heap.size #[.slice ta tn tc, .int .i64 room, .slice la N lc, .int .i64 last] tRf :: ownS tPl 6 (.slice la N lc) N (L.flatMap Pl.cells) :: l) by have := HS.out; unfold plsP at this; rw [hN] at this; exact this)
  rw [hN] at hLN HWA ⊢
  clear h hwa hsa hF hsp hi hz0 hz1 hz2 hN HSL
  dsimp only [Spn.v]
  go_enter Try.func24, Try.ntmps24
  go_upto_region 1 with (fail)
  have hwc := HWA.out
  dsimp only [Spn.cells] at hwc
  rw [← hwc]
  clear HWA hwc
  generalize w.heap.size + 1 = bp at HS ⊢
  generalize w.heap.size = bs at HS ⊢
  go_wp2_with fail
  go_loopw [7, 8, 9] (fun out iv _ wr => ∃ (j : Nat), iv = .int .i64 j ∧ j ≤ N ∧ Sat B D wr (ownS tR 1 out ((L.take j).filter (scP t sp)).length (((L.take j).filter (scP t sp)).map Pl.hv) :: blk bp sp.cells tS :: blk bs #[.slice ta tn tc, .int .i64 room, .slice la N lc, .int .i64 last] tRf :: ownS tPl 6 (.slice la N lc) N (L.flatMap Pl.cells) :: l)) (fun _ iv _ _ => N - (intOf iv).toNat)
  case atStart => exact ⟨0, rfl, by omega, HS.out⟩
  case round =>
    obtain ⟨j, rfl, hj, hs⟩ := hrel
    obtain ⟨o1, c1, rfl⟩ := hs.own_shape
    have hl1 : ((L.take j).filter (scP t sp)).length ≤ j := by
      have h1 := List.length_filter_le (scP t sp) (L.take j)
      rw [List.length_take] at h1
      omega
    obtain ⟨b0, b1, b2, b3, bf⟩ := cells4 (hs.blk 2 rfl)
    by_cases hlt : j < N
    · obtain ⟨q, hq⟩ : ∃ q, L[j]? = some q := ⟨L[j]'(by rw [HN.out]; exact hlt), List.getElem?_eq_getElem _⟩
      have hrd := (hs.own 3 rfl).rd
      obtain ⟨g, og, rfl⟩ := pl_src hrd hq HN.out
      obtain ⟨y0, y1, y2, y3, y4, y5⟩ := pl_cells hrd hq
      obtain ⟨s0, s1, s2, s3, s4, s5, s6, s7, s8, s9, s10⟩ := Spn.at (s := sp) (hs.blk 1 rfl)
      have hij : (j : Int) < (N : Int) := by omega
      have HQ := Lib.hid hq
      have HQF := Lib.hid (HFL.out q (List.mem_of_getElem? hq))
      have HSJ := Lib.hid hs
      clear hrd hq hs HS
      go_upto_region 5 with (fail)
      refine wp_region_canon [(0, false, 7), (1, false, 7), (2, false, 7), (3, false, 7), (4, false, 7), (5, false, 7), (6, false, 7), (7, true, 0), (8, false, 999)] (by kernel_rfl) (by kernel_rfl) ?_
      iterate 7 (refine wpCan_read rfl rfl (fun K hK => ?_); go_simp; refine hK _ ?_; clear hK K)
      refine wpCan_eff rfl ?_
      refine wpList_do rfl (fun K hK => ?_)
      go_simp
      refine (rwithin_ok sp q.k HSP.out HQF.out _).mono ?_
      rintro e3 w3 ⟨rfl, hk3⟩
      have HS3 := Lib.hid (HSJ.out.drew.kept hk3)
      clear hk3 HSJ b0 b1 b2 b3 bf y0 y1 y2 y3 y4 y5 s0 s1 s2 s3 s4 s5 s6 s7 s8 s9 s10
      refine hK _ _ ?_
      clear hK K
      refine wpList_nil ?_
      refine And.intro ?_ ?_
      · go_simp
      iterate 1 (refine wpCan_read rfl rfl (fun K hK => ?_); go_simp; refine hK _ ?_; clear hK K)
      refine wpCan_nil ?_
      obtain ⟨b0, b1, b2, b3, bf⟩ := cells4 (HS3.out.blk 2 rfl)
      obtain ⟨y0, y1, y2, y3, y4, y5⟩ := pl_cells (HS3.out.own 3 rfl).rd HQ.out
      by_cases hqt : t = q.t
      · subst hqt
        cases hin : spanIn sp q.k
        · have HT := Lib.hid (fil_drop (p := scP q.t sp) HQ.out (by unfold scP; simp [hin]))
          clear hin
          go_wp2_with fail
          go_roundw
          case rel => exact ⟨j + 1, by go_num, by omega, by rw [HT.out]; exact HS3.out⟩
          case measure => simp [intOf]; omega
        · by_cases hrn : 0 < q.rn
          · have hrn' : (q.rn : Int) > 0 := by omega
            have HT := Lib.hid (fil_keep (p := scP q.t sp) HQ.out (by unfold scP; simp [hin, hrn]))
            clear hin hrn
            generalize hc : (L.take j).filter (scP q.t sp) = C at hl1 HS3 ⊢
            have HC := Lib.hid hc
            clear hc
            have HSN := Lib.hid (hv_src HS3.out q)
            have hon : ∀ u ∈ [q.hv], u.oneCell' = true := by intro u hu; simp at hu; subst hu; rfl
            have HON := Lib.hid hon
            clear hon
            go_wp2_with ((at_builtin; refine wpList_append_Sat _ rfl _ _ tRs rfl tR i0 _ 1 24 Try.underlying40 HI.out.1 HI.out.2.1 HI.out.2.2.1 HI.out.2.2.2 rfl _ _ _ rfl HSN.out.1 _ 1 _ rfl HSN.out.2 HON.out (by unfold maxLen; omega) (by omega) ?_; intro v2 w2 h2 h2o; have H2 := Lib.hid (h2.swap.drop); clear h2 h2o b0 b1 b2 b3 bf y0 y1 y2 y3 y4 y5))
            go_roundw
            case rel => exact ⟨j + 1, by go_num, by omega, by rw [HT.out, HC.out, List.map_append, List.length_append]; exact H2.out⟩
            case measure => simp [intOf]; omega
          · have hrn' : ¬ ((q.rn : Int) > 0) := by omega
            have HT := Lib.hid (fil_drop (p := scP q.t sp) HQ.out (by unfold scP; simp [hrn]))
            clear hin hrn
            go_wp2_with fail
            go_roundw
            case rel => exact ⟨j + 1, by go_num, by omega, by rw [HT.out]; exact HS3.out⟩
            case measure => simp [intOf]; omega
      · have hne : (q.t == t) = false := by simp; exact fun h => hqt h.symm
        have HT := Lib.hid (fil_drop (p := scP t sp) HQ.out (by unfold scP; simp [Ne.symm hqt]))
        clear hqt
        cases hin : spanIn sp q.k
        all_goals
          clear hin
          go_wp2_with fail
          go_roundw
          case rel => exact ⟨j + 1, by go_num, by omega, by rw [HT.out]; exact HS3.out⟩
          case measure => simp [intOf]; omega
    · have h0' : ¬ (j : Int) < (N : Int) := by omega
      have HFN := Lib.hid (show Sat B D wr (ownS tR 1 (.slice o1 ((L.take j).filter (scP t sp)).length c1) (L.filter (scP t sp)).length ((L.filter (scP t sp)).map Pl.hv) :: _) by have := hs; rw [List.take_of_length_le (by rw [HN.out]; omega)] at this ⊢; exact this)
      clear hs hl1
      go_wp2_with fail
      go_ret
      exact ⟨_, rfl, by unfold plsP; rw [HN.out]; exact (HFN.out.swap.drop.swap.drop)⟩
end Go.Proofs.Ytcbklkcpjldcjaa

/- The document's answers: Rows (ratlineref02), May (ratlineref06). -/
namespace Go.Proofs.Ytcbklkcpjldcjaa
open Go.ChangeShapes Go.WideShapes Go.ChangeAt Go.RowKit
set_option maxRecDepth 100000
set_option linter.unusedSimpArgs false

/-- rows are read: the headers, and each row -/
def RowsRd (w : World) (v : Value) (rs : List (List Val)) : Prop := ∃ hs : List Value, hs.length = rs.length ∧ Rd w 1 v rs.length hs ∧ ∀ (i : Nat) (h : Value) (r : List Val), hs[i]? = some h → rs[i]? = some r → RowRd w h r
theorem RowsRd.kept {w w' : World} {v : Value} {rs : List (List Val)} (h : RowsRd w v rs) (k : Kept (fun _ => False) w w') : RowsRd w' v rs := by
  obtain ⟨hs, h1, h2, h3⟩ := h
  exact ⟨hs, h1, Rd.kept h2 k (fun _ _ h => h), fun i u r a b => Rd.kept (h3 i u r a b) k (fun _ _ h => h)⟩
theorem RowsRd.shape {w : World} {v : Value} {rs : List (List Val)} (h : RowsRd w v rs) : ∃ ao cap, v = .slice ao rs.length cap ∧ rs.length ≤ maxLen := by
  obtain ⟨hs, _, ⟨_, m, ao, cap, h, _⟩, _⟩ := h
  exact ⟨ao, cap, h, m⟩
theorem RowsRd.at {w : World} {ao : Option Addr} {n cap i : Nat} {rs : List (List Val)} {r : List Val} (h : RowsRd w (.slice ao n cap) rs) (hr : rs[i]? = some r) : ∃ g og o cp, ao = some ⟨g, og, none⟩ ∧ w.cell? ⟨g, og + i, none⟩ = some (.slice o r.length cp) ∧ RowRd w (.slice o r.length cp) r := by
  obtain ⟨hs, h1, h2, h3⟩ := h
  have hlt := (List.getElem?_eq_some_iff.1 hr).1
  obtain ⟨u, hu⟩ : ∃ u, hs[i]? = some u := ⟨hs[i]'(by omega), List.getElem?_eq_getElem _⟩
  have h4 := h3 i u r hu hr
  obtain ⟨_, _, ao2, cap2, rfl, _⟩ := id h4
  rcases h2.2.2 with ⟨_, _, hv, _, _, _, hcell⟩
  cases hv
  rcases hcell with h0 | ⟨g, o, hg, hcc⟩
  · omega
  · exact ⟨g, o, ao2, cap2, hg, hcc i _ hu, h4⟩

set_option maxHeartbeats 4000000 in
theorem rRows_ok {w : World} {v1 v2 : Value} {l1 l2 : List (List Val)} (h1 : RowsRd w v1 l1) (h2 : RowsRd w v2 l2) :
    Calls Try.prog 18 #[v1, v2] w fun e w' => e = .returned (.bool (decide (l1 = l2))) ∧ Kept (fun _ => False) w w' := by
  obtain ⟨a1, c1, rfl, m1⟩ := h1.shape
  obtain ⟨a2, c2, rfl, m2⟩ := h2.shape
  unfold maxLen at m1 m2
  have H1 := Lib.hid h1
  have H2 := Lib.hid h2
  clear h1 h2
  by_cases hlen : l1.length = l2.length
  · rw [← hlen] at H2 m2 ⊢
    have HL2 := Lib.hid hlen
    generalize hL : l1.length = N at *
    have HL1 := Lib.hid hL
    clear hlen hL
    go_enter Try.func18, Try.ntmps18
    go_wp2_with fail
    go_loopw [5, 6] (fun i _ wr => ∃ k : Nat, i = .int .i64 k ∧ k ≤ N ∧ l1.take k = l2.take k ∧ Kept (fun _ => False) w wr) (fun i _ _ => N - (intOf i).toNat)
    case atStart => exact ⟨0, rfl, by omega, rfl, Kept.refl _ _⟩
    case round =>
      obtain ⟨k, rfl, hk, ht, hkr⟩ := hrel
      have HT := Lib.hid ht
      have HK := Lib.hid hkr
      clear ht hkr
      by_cases hlt : k < N
      · obtain ⟨a, ha⟩ : ∃ a, l1[k]? = some a := ⟨l1[k]'(by rw [HL1.out]; exact hlt), List.getElem?_eq_getElem _⟩
        obtain ⟨b, hb⟩ : ∃ b, l2[k]? = some b := ⟨l2[k]'(by rw [← HL2.out]; exact hlt), List.getElem?_eq_getElem _⟩
        obtain ⟨g1, og1, o1, p1, rfl, x0, r1⟩ := (H1.out.kept HK.out).at ha
        obtain ⟨g2, og2, o2, p2, rfl, y0, r2⟩ := (H2.out.kept HK.out).at hb
        have HR1 := Lib.hid r1
        have HR2 := Lib.hid r2
        have HA := Lib.hid ha
        have HB := Lib.hid hb
        have hkn : (k : Int) < (N : Int) := by omega
        clear ha hb r1 r2
        go_upto_region 6 with (fail)
        refine wp_region_canon [(0, false, 8), (1, false, 8), (2, false, 8), (3, false, 8), (4, false, 8), (5, false, 8), (6, false, 8), (7, false, 8), (8, true, 0), (9, false, 999)] (by kernel_rfl) (by kernel_rfl) ?_
        iterate 8 (refine wpCan_read rfl rfl (fun K hK => ?_); go_simp; refine hK _ ?_; clear hK K)
        refine wpCan_eff rfl ?_
        refine wpList_do rfl (fun K hK => ?_)
        go_simp
        refine (rsame_ok (w := wr.drew) HR1.out HR2.out).mono ?_
        rintro e3 w3 ⟨rfl, n3, hn3⟩
        have HK3 := Lib.hid (show Kept (fun _ => False) w w3 by rw [hn3]; exact HK.out.drew.drewN _)
        clear hn3 x0 y0
        refine hK _ _ ?_
        clear hK K
        refine wpList_nil ?_
        refine And.intro ?_ ?_
        · go_simp
        iterate 1 (refine wpCan_read rfl rfl (fun K hK => ?_); go_simp; refine hK _ ?_; clear hK K)
        refine wpCan_nil ?_
        by_cases hab : a = b
        · subst hab
          have HSU := Lib.hid (take_succ_eq HT.out HA.out HB.out)
          have hd : decide (a = a) = true := decide_eq_true rfl
          go_wp2_with fail
          go_roundw
          case rel => exact ⟨k + 1, by go_num, by omega, HSU.out, HK3.out⟩
          case measure => simp [intOf]; omega
        · have HNE := Lib.hid (show decide (l1 = l2) = false from decide_eq_false (fun h => by
            have h3 := HA.out
            rw [h, HB.out] at h3
            exact hab (Option.some.inj h3).symm))
          have hd : decide (a = b) = false := decide_eq_false hab
          go_wp2_with fail
          go_ret
          rw [HNE.out]
          exact ⟨rfl, HK3.out⟩
      · have HEQ := Lib.hid (show decide (l1 = l2) = true from decide_eq_true (take_all_eq HT.out (by rw [HL1.out]; omega) (by rw [← HL2.out]; omega)))
        go_wp2_with fail
        go_ret
        rw [HEQ.out]
        exact ⟨rfl, HK.out⟩
  · have HNE := Lib.hid (show decide (l1 = l2) = false from decide_eq_false (fun h => hlen (by rw [h])))
    have hl' : ((l1.length : Int) == (l2.length : Int)) = false := by simp; omega
    clear hlen
    go_enter Try.func18, Try.ntmps18
    go_wp2_with fail
    go_ret
    rw [HNE.out]
    exact ⟨rfl, Kept.refl _ _⟩

theorem all_take_succ {α : Type} {p : α → Bool} {L : List α} {j : Nat} {x : α} (hx : L[j]? = some x) : (L.take (j + 1)).all p = ((L.take j).all p && p x) := by
  rw [List.take_add_one, hx, List.all_append]
  simp
theorem all_take_no {α : Type} {p : α → Bool} {L : List α} {j : Nat} (h : (L.take j).all p = false) : L.all p = false := by
  rw [List.all_eq_false] at *
  obtain ⟨x, hx, h2⟩ := h
  exact ⟨x, List.mem_of_mem_take hx, h2⟩
set_option maxHeartbeats 4000000 in
theorem rMay6_ok {w : World} {tv : Value} {cs : List (List Bool)} (room : Int) (h : TabsRd w tv cs) : Calls Try.prog 21 #[tv, .int .i64 room] w fun e w' => e = .returned (.bool (mayNew cs room)) ∧ Kept (fun _ => False) w w' := by
  obtain ⟨ta, tc, rfl, m1⟩ : ∃ ta tc, tv = .slice ta cs.length tc ∧ cs.length ≤ maxLen := by obtain ⟨_, _, _, ⟨_, m, ta, tc, hv, _⟩, _⟩ := id h; exact ⟨ta, tc, hv, m⟩
  unfold maxLen at m1
  have HT := Lib.hid h
  clear h
  by_cases h1 : (cs.length : Int) < 1
  · have HM := Lib.hid (newM_no (cs := cs) (room := room) (.inl (by omega)))
    go_enter Try.func21, Try.ntmps21
    go_wp2_with fail
    go_ret
    rw [HM.out]
    exact ⟨rfl, Kept.refl _ _⟩
  by_cases h2 : (cs.length : Int) > 3
  · have HM := Lib.hid (newM_no (cs := cs) (room := room) (.inr (.inl (by omega))))
    go_enter Try.func21, Try.ntmps21
    go_wp2_with fail
    go_ret
    rw [HM.out]
    exact ⟨rfl, Kept.refl _ _⟩
  by_cases h3 : room < 0
  · have HM := Lib.hid (newM_no (cs := cs) (room := room) (.inr (.inr (.inl h3))))
    go_enter Try.func21, Try.ntmps21
    go_wp2_with fail
    go_ret
    rw [HM.out]
    exact ⟨rfl, Kept.refl _ _⟩
  by_cases h4 : room > 40
  · have HM := Lib.hid (newM_no (cs := cs) (room := room) (.inr (.inr (.inr (by omega)))))
    go_enter Try.func21, Try.ntmps21
    go_wp2_with fail
    go_ret
    rw [HM.out]
    exact ⟨rfl, Kept.refl _ _⟩
  have HM := Lib.hid (show mayNew cs room = cs.all mayT by
    unfold mayNew
    rw [decide_eq_true (show 1 ≤ cs.length by omega), decide_eq_true (show cs.length ≤ 3 by omega), decide_eq_true (show 0 ≤ room by omega), decide_eq_true (show room ≤ 40 by omega)]
    rfl)
  obtain ⟨N, hN⟩ : ∃ N, cs.length = N := ⟨_, rfl⟩
  have HN := Lib.hid hN
  rw [hN] at h1 h2 m1 HT ⊢
  clear hN
  go_enter Try.func21, Try.ntmps21
  go_wp2_with fail
  go_loopw [5, 6] (fun i _ wr => ∃ k : Nat, i = .int .i64 k ∧ k ≤ N ∧ (cs.take k).all mayT = true ∧ Kept (fun _ => False) w wr) (fun i _ _ => N - (intOf i).toNat)
  case atStart => exact ⟨0, rfl, by omega, by simp, Kept.refl _ _⟩
  case round =>
    obtain ⟨k, rfl, hk, ht, hkr⟩ := hrel
    have HTK := Lib.hid ht
    have HK := Lib.hid hkr
    clear ht hkr
    by_cases hlt : k < N
    · obtain ⟨c, hc⟩ : ∃ c, cs[k]? = some c := ⟨cs[k]'(by rw [HN.out]; exact hlt), List.getElem?_eq_getElem _⟩
      have hT2 : TabsRd wr (.slice ta N tc) cs := by
        obtain ⟨hs, q1, q2, q3, q4⟩ := HT.out
        exact ⟨hs, q1, q2, Rd.kept q3 HK.out (fun _ _ h => h), fun i u c h5 h6 => Rd.kept (q4 i u c h5 h6) HK.out (fun _ _ h => h)⟩
      obtain ⟨g, og, o, cp, rfl, hcell, hcol⟩ := hT2.at hc
      have HMY := Lib.hid (rmay_ok hcol)
      have HS := Lib.hid (all_take_succ (p := mayT) hc)
      have hkn : (k : Int) < (N : Int) := by omega
      clear hT2 hcol hc
      cases hm : mayT c
      · have HMB := Lib.hid (show mayB c = false from hm)
        have HNO := Lib.hid (show cs.all mayT = false from all_take_no (j := k + 1) (by rw [HS.out, hm]; simp))
        clear hm
        go_wp2_with (go_at_call 33; refine HMY.out.mono ?_; rw [HMB.out]; rintro e1 w1 ⟨rfl, hk1⟩; have HK1 := Lib.hid (HK.out.trans hk1 (fun _ h => h.elim)); clear hk1 hcell)
        go_ret
        rw [HM.out, HNO.out]
        exact ⟨rfl, HK1.out⟩
      · have HMB := Lib.hid (show mayB c = true from hm)
        have HSU := Lib.hid (show (cs.take (k + 1)).all mayT = true by rw [HS.out, hm, HTK.out]; rfl)
        clear hm
        go_wp2_with (go_at_call 33; refine HMY.out.mono ?_; rw [HMB.out]; rintro e1 w1 ⟨rfl, hk1⟩; have HK1 := Lib.hid (HK.out.trans hk1 (fun _ h => h.elim)); clear hk1 hcell)
        go_roundw
        case rel => exact ⟨k + 1, by go_num, by omega, HSU.out, HK1.out⟩
        case measure => simp [intOf]; omega
    · have HAL := Lib.hid (show cs.all mayT = true by have := HTK.out; rwa [List.take_of_length_le (by rw [HN.out]; omega)] at this)
      go_wp2_with fail
      go_ret
      rw [HM.out, HAL.out]
      exact ⟨rfl, HK.out⟩
end Go.Proofs.Ytcbklkcpjldcjaa
