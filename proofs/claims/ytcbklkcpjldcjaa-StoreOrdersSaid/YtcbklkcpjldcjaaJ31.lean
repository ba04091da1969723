/- The store: New. -/
import Derived.Test.YtcbklkcpjldcjaaJ30
namespace Go.Proofs.Ytcbklkcpjldcjaa
open Go.ChangeShapes Go.WideShapes Go.ChangeAt Go.RowKit
set_option maxRecDepth 100000
set_option linter.unusedSimpArgs false

theorem infoTab : (Try.prog.info? tTab).map (fun i => (i.zero, i.size, i.bytes)) = some (some (.agg #[.slice none 0 0]), 1, 24) := by kernel_rfl
theorem infoPt : (Try.prog.info? tPt).map (fun i => (i.zero, i.size, i.bytes)) = some (some (.pointer none), 1, 8) := by kernel_rfl
theorem infoB : (Try.prog.info? tB).map (fun i => (i.zero, i.size, i.bytes)) = some (some (.bool false), 1, 1) := by kernel_rfl

/-- some tables are read -/
def TabsRd (w : World) (v : Value) (cs : List (List Bool)) : Prop := ∃ hs : List Value, hs.length = cs.length ∧ (∀ u ∈ hs, u.oneCell' = true) ∧ Rd w 1 v cs.length hs ∧ ∀ (i : Nat) (h : Value) (c : List Bool), hs[i]? = some h → cs[i]? = some c → ColRd w h c
theorem TabsRd.at {w : World} {ao : Option Addr} {n cap i : Nat} {cs : List (List Bool)} {c : List Bool} (h : TabsRd w (.slice ao n cap) cs) (hc : cs[i]? = some c) : ∃ g og o cp, ao = some ⟨g, og, none⟩ ∧ w.cell? ⟨g, og + i, none⟩ = some (.slice o c.length cp) ∧ ColRd w (.slice o c.length cp) c := by
  obtain ⟨hs, h1, _, h2, h3⟩ := h
  have hlt := (List.getElem?_eq_some_iff.1 hc).1
  obtain ⟨u, hu⟩ : ∃ u, hs[i]? = some u := ⟨hs[i]'(by omega), List.getElem?_eq_getElem _⟩
  have h4 := h3 i u c hu hc
  obtain ⟨_, _, ao2, cap2, rfl, _⟩ := id h4
  rcases h2.2.2 with ⟨_, _, hv, _, _, _, hcell⟩
  cases hv
  rcases hcell with h0 | ⟨g, o, hg, hcc⟩
  · omega
  · exact ⟨g, o, ao2, cap2, hg, hcc i _ hu, h4⟩
def mayNew (cs : List (List Bool)) (room : Int) : Bool := decide (1 ≤ cs.length) && decide (cs.length ≤ 3) && decide (0 ≤ room) && decide (room ≤ 40) && cs.all mayT
def newM (cs : List (List Bool)) (room : Int) : StM := ⟨cs, List.replicate cs.length [], room, 0, 0⟩
theorem newM_bare (cs : List (List Bool)) (room : Int) : (newM cs room).bare = newM cs room := by
  unfold newM StM.bare
  dsimp only
  rw [List.map_replicate]
  rfl
theorem newM_good {cs : List (List Bool)} {room : Int} (h : mayNew cs room = true) : StI 0 (newM cs room) := by
  unfold mayNew at h
  simp only [Bool.and_eq_true, decide_eq_true_eq] at h
  obtain ⟨⟨⟨⟨h1, h2⟩, h3⟩, h4⟩, h5⟩ := h
  refine ⟨⟨⟨h1, h2⟩, fun c hc => List.all_eq_true.1 h5 c hc, fun i c m _ hm p hp => ?_⟩, by simp [newM], ?_, ⟨h3, h4⟩, h3, ⟨by simp [newM], by simp [newM]⟩, fun m hm => ?_⟩
  · have := List.eq_of_mem_replicate (List.mem_of_getElem? hm)
    subst this
    cases hp
  · show (0 : Int) = _
    unfold newM
    simp
  · have := List.eq_of_mem_replicate hm
    subst this
    exact ⟨List.Pairwise.nil, fun p hp => by simp [tl] at hp⟩
theorem tab_new {B w : World} {D : PH} {t : Nat} {l : List HP} (h : TreeA B D w t TM.empty l) : Sat B D w (tabG 0 t [] :: l) :=
  Sat.close_ex TM.empty ⟨good_empty, small_empty⟩ (Sat.swap (Sat.togroup (L := []) h.close))
theorem take_snoc {α : Type} {L : List α} {j : Nat} {x : α} (h : L[j]? = some x) : L.take (j + 1) = L.take j ++ [x] := by rw [List.take_add_one, h]; rfl
/-- a table more -/
theorem st_push {B w : World} {D : PH} {s j t : Nat} {cs : List (List Bool)} {c : List Bool} {room : Int} {x : StH} {tv pv u : Value} {l : List HP} (hc : cs[j]? = some c) (hx : StOk (newM (cs.take j) room) x)
    (h : Sat B D w (tabG 0 t [] :: colP (u, c) :: blk s #[tv, pv, .int .i64 room, .int .i64 0, .int .i64 0] tSt :: ownS tTab 1 tv (j + 1) (x.hs ++ [u]) :: group ((x.hs.zip (cs.take j)).map colP) :: ownS tPt 1 pv (j + 1) (x.ts.map ptrV ++ [ptrV t]) :: group ((x.ts.zip (List.replicate j [])).map (tabP 0)) :: l)) :
    Sat B D w (storeG s 0 (newM (cs.take (j + 1)) room) :: l) := by
  have hlt := (List.getElem?_eq_some_iff.1 hc).1
  have hl : (cs.take j).length = j := by rw [List.length_take]; omega
  have hl2 : (cs.take (j + 1)).length = j + 1 := by rw [List.length_take]; omega
  obtain ⟨h1, h2, h3⟩ := hx
  unfold newM at h1 h2 h3
  dsimp only at h1 h2 h3
  rw [List.length_replicate] at h2
  rw [hl] at h1 h2
  have ec : (((x.hs ++ [u]).zip (cs.take (j + 1))).map colP) = (x.hs.zip (cs.take j)).map colP ++ [colP (u, c)] := by
    rw [take_snoc hc, List.zip_append (by omega), List.map_append]; rfl
  have et : (((x.ts ++ [t]).zip (List.replicate (j + 1) ([] : TabM))).map (tabP 0)) = (x.ts.zip (List.replicate j [])).map (tabP 0) ++ [tabG 0 t []] := by
    rw [List.replicate_succ', List.zip_append (by rw [List.length_replicate]; omega), List.map_append]; rfl
  refine storeClose (x := ⟨tv, pv, x.hs ++ [u], x.ts ++ [t]⟩) ⟨by unfold newM; simp [h1, hl2], by unfold newM; simp [h2, hl2], by unfold newM; simp⟩ ?_
  unfold stL newM
  dsimp only
  rw [List.length_replicate, hl2, ec, et, List.map_append]
  -- the groups
  have g1 := (Sat.front h 6 rfl).ungroup
  have g2 : Sat B D w (group ((x.ts.zip (List.replicate j [])).map (tabP 0) ++ [tabG 0 t []]) :: colP (u, c) :: blk s #[tv, pv, .int .i64 room, .int .i64 0, .int .i64 0] tSt :: ownS tTab 1 tv (j + 1) (x.hs ++ [u]) :: group ((x.hs.zip (cs.take j)).map colP) :: ownS tPt 1 pv (j + 1) (x.ts.map ptrV ++ [ptrV t]) :: l) := by
    refine Sat.togroup ?_
    rw [List.append_assoc]
    exact g1
  have g3 := (Sat.front g2 4 rfl).ungroup
  have g4 : Sat B D w (group ((x.hs.zip (cs.take j)).map colP ++ [colP (u, c)]) :: group ((x.ts.zip (List.replicate j [])).map (tabP 0) ++ [tabG 0 t []]) :: blk s #[tv, pv, .int .i64 room, .int .i64 0, .int .i64 0] tSt :: ownS tTab 1 tv (j + 1) (x.hs ++ [u]) :: ownS tPt 1 pv (j + 1) (x.ts.map ptrV ++ [ptrV t]) :: l) := by
    refine Sat.togroup ?_
    rw [List.append_assoc]
    exact g3.perm ((List.Perm.swap _ _ _).append_left _)
  have g5 := (Sat.front g4 2 rfl)
  have g6 : Sat B D w (blk s #[tv, pv, .int .i64 room, .int .i64 0, .int .i64 0] tSt :: ownS tTab 1 tv (j + 1) (x.hs ++ [u]) :: group ((x.hs.zip (cs.take j)).map colP ++ [colP (u, c)]) :: ownS tPt 1 pv (j + 1) (x.ts.map ptrV ++ [ptrV t]) :: group ((x.ts.zip (List.replicate j [])).map (tabP 0) ++ [tabG 0 t []]) :: l) := by
    refine g5.perm (List.Perm.cons _ ?_)
    simp only [List.eraseIdx_cons_succ, List.eraseIdx_cons_zero]
    have p1 := List.perm_middle (l₁ := [group ((x.hs.zip (cs.take j)).map colP ++ [colP (u, c)]), group ((x.ts.zip (List.replicate j [])).map (tabP 0) ++ [tabG 0 t []])]) (a := ownS tTab 1 tv (j + 1) (x.hs ++ [u])) (l₂ := ownS tPt 1 pv (j + 1) (x.ts.map ptrV ++ [ptrV t]) :: l)
    exact p1.trans (((List.Perm.swap _ _ _).cons _).cons _)
  exact g6

theorem newM_list {B w : World} {D : PH} {s j : Nat} {cs : List (List Bool)} {room : Int} {x : StH} {l : List HP} (hj : j ≤ cs.length) (h : Sat B D w (stL s 0 (newM (cs.take j) room) x ++ l)) :
    Sat B D w (blk s #[x.tv, x.pv, .int .i64 room, .int .i64 0, .int .i64 0] tSt :: ownS tTab 1 x.tv j x.hs :: group ((x.hs.zip (cs.take j)).map colP) :: ownS tPt 1 x.pv j (x.ts.map ptrV) :: group ((x.ts.zip (List.replicate j [])).map (tabP 0)) :: l) := by
  have hl : (cs.take j).length = j := by rw [List.length_take]; omega
  unfold stL newM at h
  dsimp only at h
  rw [List.length_replicate, hl] at h
  exact h
theorem newM_no {cs : List (List Bool)} {room : Int} (h : cs.length < 1 ∨ 3 < cs.length ∨ room < 0 ∨ 40 < room) : mayNew cs room = false := by
  unfold mayNew
  rcases h with h | h | h | h
  · simp [show ¬ (1 ≤ cs.length) by omega]
  · simp [show ¬ (cs.length ≤ 3) by omega]
  · simp [show ¬ (0 ≤ room) by omega]
  · simp [show ¬ (room ≤ 40) by omega]
def NewPost (B : World) (D : PH) (cs : List (List Bool)) (room : Int) (l : List HP) (e : Ending) (w' : World) : Prop :=
  (mayNew cs room = false ∧ e = .returned (.pointer none) ∧ Sat B D w' l) ∨ (mayNew cs room = true ∧ ∃ s, e = .returned (.pointer (some ⟨s, 0, none⟩)) ∧ Sat B D w' (storeB s 0 (newM cs room) :: l))

set_option maxHeartbeats 8000000 in
theorem SNew_ok {B w : World} {D : PH} {l : List HP} {cv : Value} {cs : List (List Bool)} (room : Int) (hT : ∀ (W : World) (X : List HP), Sat B D W (X ++ l) → TabsRd W cv cs) (h : Sat B D w l) :
    Calls Try.prog 10 #[cv, .int .i64 room] w fun e w' => NewPost B D cs room l e w' := by
  obtain ⟨-, m1, co, cap, rfl, -⟩ : Rd w 1 cv cs.length _ := (hT w [] h).choose_spec.2.2.1
  have HS := Lib.hid h
  have HT := Lib.hid hT
  clear h hT
  unfold maxLen at m1
  obtain ⟨N, hN⟩ : ∃ N, cs.length = N := ⟨_, rfl⟩
  have HN := Lib.hid hN
  rw [hN] at HT m1 ⊢
  by_cases c1 : (N : Int) < 1
  · have HE := Lib.hid (newM_no (room := room) (cs := cs) (.inl (by omega)))
    clear hN
    go_enter Try.func10, Try.ntmps10
    go_wp2_with fail
    go_ret
    exact .inl ⟨HE.out, rfl, HS.out⟩
  by_cases c2 : (N : Int) > 3
  · have HE := Lib.hid (newM_no (room := room) (cs := cs) (.inr (.inl (by omega))))
    clear hN
    go_enter Try.func10, Try.ntmps10
    go_wp2_with fail
    go_ret
    exact .inl ⟨HE.out, rfl, HS.out⟩
  by_cases c3 : room < 0
  · have HE := Lib.hid (newM_no (room := room) (cs := cs) (.inr (.inr (.inl c3))))
    clear hN
    go_enter Try.func10, Try.ntmps10
    go_wp2_with fail
    go_ret
    exact .inl ⟨HE.out, rfl, HS.out⟩
  by_cases c4 : room > 40
  · have HE := Lib.hid (newM_no (room := room) (cs := cs) (.inr (.inr (.inr (by omega)))))
    clear hN
    go_enter Try.func10, Try.ntmps10
    go_wp2_with fail
    go_ret
    exact .inl ⟨HE.out, rfl, HS.out⟩
  have HCA := Lib.hid (show ∀ b, cs.all mayT = b → mayNew cs room = b by
    intro b hb
    unfold mayNew
    rw [hb, decide_eq_true (show 1 ≤ cs.length by omega), decide_eq_true (show cs.length ≤ 3 by omega), decide_eq_true (show 0 ≤ room by omega), decide_eq_true (show room ≤ 40 by omega)]
    rfl)
  have hs0 := HS.out.alloc #[.slice none 0 0, .slice none 0 0, .int .i64 room, .int .i64 0, .int .i64 0] tSt
  have hn0 : Sat B D (w.alloc (.cells #[.slice none 0 0, .slice none 0 0, .int .i64 room, .int .i64 0, .int .i64 0] tSt)) (storeG w.heap.size 0 (newM (cs.take 0) room) :: l) := by
    have h1 := (hs0.own_nil tTab 1).swap
    have h2 : Sat B D _ (group [] :: _) := Sat.togroup (L := []) h1
    have h3 := h2.own_nil tPt 1
    have h4 : Sat B D _ (group [] :: _) := Sat.togroup (L := []) h3
    refine storeClose (x := ⟨.slice none 0 0, .slice none 0 0, [], []⟩) ⟨by simp [newM], by simp [newM], by simp [newM]⟩ ?_
    refine h4.perm ?_
    exact (List.perm_middle (l₁ := [group [], ownS tPt 1 (.slice none 0 0) 0 [], group []]) (a := blk w.heap.size #[.slice none 0 0, .slice none 0 0, .int .i64 room, .int .i64 0, .int .i64 0] tSt) (l₂ := ownS tTab 1 (.slice none 0 0) 0 [] :: l)).trans (List.Perm.cons _ ((List.perm_middle (l₁ := [group [], ownS tPt 1 (.slice none 0 0) 0 [], group []]) (a := ownS tTab 1 (.slice none 0 0) 0 []) (l₂ := l)).trans (List.Perm.cons _ ((List.Perm.refl _)))))
  have HN0 := Lib.hid hn0
  clear hs0 hn0 hN
  go_enter Try.func10, Try.ntmps10
  go_upto_region 4 with fail
  obtain ⟨W, hW, hn⟩ := Sat.hide HN0.out
  rw [← hW]
  generalize w.heap.size = s at hn ⊢
  clear hW HN0 HS
  have HN1 := Lib.hid hn
  clear hn
  go_wp2_with fail
  go_loopw [30] (fun idx wr => ∃ j : Nat, idx = .int .i64 j ∧ j ≤ N ∧ (cs.take j).all mayT = true ∧ Sat B D wr (storeG s 0 (newM (cs.take j) room) :: l)) (fun idx _ => N - (intOf idx).toNat)
  case atStart => exact ⟨0, rfl, Nat.zero_le _, by simp, HN1.out⟩
  case round =>
    obtain ⟨j, rfl, hj, hmay, hsat⟩ := hrel
    by_cases hlt : j < N
    · obtain ⟨c, hc⟩ : ∃ c, cs[j]? = some c := ⟨cs[j]'(by rw [HN.out]; exact hlt), List.getElem?_eq_getElem _⟩
      obtain ⟨g, og, o, cp, rfl, hcell, hcol⟩ := (HT.out wr [storeG s 0 (newM (cs.take j) room)] hsat).at hc
      have hib : (j : Int) < (N : Int) := by omega
      have hk3 : Kept (fun _ => False) wr (wr.alloc (.cells #[.slice o c.length cp] tTab)) := (Kept.refl _ _).alloc _
      have hb3 := heap_alloc_self wr (.cells #[.slice o c.length cp] tTab)
      have HS3 := Lib.hid (hsat.kept hk3)
      have HCO3 := Lib.hid (Rd.kept hcol hk3 (fun _ _ h => h))
      have HB3 := Lib.hid hb3
      have HC := Lib.hid hc
      have HMAY := Lib.hid hmay
      clear hk3 hb3 hsat hcol hc hmay
      go_upto_region 7 with fail
      obtain ⟨W3, hW3⟩ : ∃ W3, W3 = wr.alloc (.cells #[.slice o c.length cp] tTab) := ⟨_, rfl⟩
      rw [← hW3] at HB3 HS3 HCO3 ⊢
      generalize wr.heap.size = b7 at HB3 ⊢
      clear hW3 hcell
      obtain ⟨q0, qf⟩ := cells1 HB3.out
      have HCH := Lib.hid (Check_ok HCO3.out)
      cases hm : mayT c
      · have HM := Lib.hid (show chk c = 1 by simp [chk, hm])
        have HE := Lib.hid (HCA.out false (by rw [List.all_eq_false]; exact ⟨c, List.mem_of_getElem? HC.out, by rw [hm]; simp⟩))
        clear hm
        go_wp2_with (go_at_call 28; refine HCH.out.mono ?_; rw [HM.out]; rintro e1 w1 ⟨rfl, hk2⟩; have HK2 := Lib.hid hk2; clear hk2 q0 qf)
        go_ret
        exact .inl ⟨HE.out, rfl, (HS3.out.kept HK2.out).drop⟩
      · have HM := Lib.hid (show chk c = 0 by simp [chk, hm])
        have HMJ := Lib.hid (show (cs.take (j + 1)).all mayT = true by rw [take_snoc HC.out, List.all_append, HMAY.out]; simp [hm])
        have hcl : c.length ≤ 4 := by
          unfold mayT at hm
          simp only [Bool.and_eq_true, decide_eq_true_eq] at hm
          exact hm.2
        clear hm
        go_upto_region 9 with (go_at_call 28; refine HCH.out.mono ?_; rw [HM.out]; rintro e1 w4 ⟨rfl, hk2⟩; have HK2 := Lib.hid hk2; clear hk2 q0 qf)
        have hk5 : Kept (fun _ => False) w4 (w4.alloc (.cells #[] tB)) := (Kept.refl _ _).alloc _
        have HO := Lib.hid ((HS3.out.kept HK2.out).own_fresh (e := tB) (size := 1) (n := 0) (cap := 0) (cs := #[]) (xs := []) (by omega) (by omega) (by simp) (by simp) (by simp))
        have HCO5 := Lib.hid (Rd.kept (Rd.kept HCO3.out HK2.out (fun _ _ h => h)) hk5 (fun _ _ h => h))
        have hb4 := (HK2.out.block _ (lt_of_heap HB3.out) (fun h => h)).trans HB3.out
        obtain ⟨q0, qf⟩ := cells1 ((hk5.block _ (lt_of_heap hb4) (fun h => h)).trans hb4)
        obtain ⟨i0, hi, hz0, hz1, hz2⟩ := info_parts infoB
        have HI := Lib.hid (And.intro hi (And.intro hz0 (And.intro hz1 hz2)))
        have HONE := Lib.hid (show ∀ u ∈ c.flatMap bcells, u.oneCell' = true from fun u hu => by obtain ⟨x, _, hx⟩ := List.mem_flatMap.1 hu; exact bone x u hx)
        clear hk5 hb4 hi hz0 hz1 hz2 HS3 HK2 HCO3 HB3 HCH HM
        go_upto_region 10 with (at_builtin; refine wpList_append_Sat _ rfl _ _ tBs rfl tB i0 _ 1 1 Try.underlying25 HI.out.1 HI.out.2.1 HI.out.2.2.1 HI.out.2.2.2 rfl _ 0 [] rfl HO.out _ c.length (c.flatMap bcells) rfl HCO5.out HONE.out (by unfold maxLen; omega) (by omega) ?_; intro v6 w6 h6 h6o; rw [Nat.zero_add, List.nil_append] at h6; obtain ⟨o6, c6, rfl⟩ := h6.own_shape; have H6 := Lib.hid h6; clear h6 h6o q0 qf)
        obtain ⟨⟨tv, pv, hs, ts⟩, hx, hs6⟩ := storeOpen H6.out.swap
        replace hs6 := newM_list (show j ≤ cs.length by rw [HN.out]; omega) hs6
        dsimp only at hs6
        have HX := Lib.hid hx
        obtain ⟨tg, tcp, rfl⟩ := (Sat.front hs6 1 rfl).own_shape
        obtain ⟨pg, pcp, rfl⟩ := (Sat.front hs6 3 rfl).own_shape
        obtain ⟨t0, t1, t2, t3, t4, tf⟩ := cells5 (Sat.blk hs6 0 rfl)
        have hs7 := hs6.alloc #[.slice o6 c.length c6] tTab
        have hrd := rd_block (size := 1) (n := 1) hs7.heap_blk rfl (by unfold maxLen; omega)
        have ht7 := Sat.front hs7 2 rfl
        simp only [List.eraseIdx_cons_succ, List.eraseIdx_cons_zero] at ht7
        have HT7 := Lib.hid ht7
        have HRD := Lib.hid hrd
        obtain ⟨i0, hi, hz0, hz1, hz2⟩ := info_parts infoTab
        have HI2 := Lib.hid (And.intro hi (And.intro hz0 (And.intro hz1 hz2)))
        have HONE2 := Lib.hid (show ∀ u ∈ [Value.slice o6 c.length c6], u.oneCell' = true by intro u hu; simp at hu; subst hu; rfl)
        clear hi hz0 hz1 hz2 hx hs6 hs7 hrd ht7 H6 HO HCO5 HI HONE
        go_upto_region 11 with (at_builtin; refine wpList_append_Sat _ rfl _ _ tTabs rfl tTab i0 _ 1 24 Try.underlying30 HI2.out.1 HI2.out.2.1 HI2.out.2.2.1 HI2.out.2.2.2 rfl _ j hs rfl HT7.out _ 1 _ rfl HRD.out HONE2.out (by unfold maxLen; omega) (by omega) ?_; intro v8 w8 h8 h8o; obtain ⟨o8, c8, rfl⟩ := h8.own_shape; clear t0 t1 t2 t3 t4 tf; obtain ⟨t0, t1, t2, t3, t4, tf⟩ := cells5 (Sat.blk h8 2 rfl); have H8 := Lib.hid h8; clear h8 h8o)
        have h9 := Sat.modify H8.out 2 rfl (fun _ h => h.set 0 (.slice o8 (j + 1) c8))
        simp only [List.set_cons_succ, List.set_cons_zero] at h9
        replace h9 : Sat B D (w8.setCell ⟨s, 0, none⟩ (.slice o8 (j + 1) c8)) (blk s #[.slice o8 (j + 1) c8, .slice pg j pcp, .int .i64 room, .int .i64 0, .int .i64 0] tSt :: ownS tTab 1 (.slice o8 (j + 1) c8) (j + 1) (hs ++ [.slice o6 c.length c6]) :: group ((hs.zip (cs.take j)).map colP) :: ownS tPt 1 (.slice pg j pcp) j (ts.map ptrV) :: group ((ts.zip (List.replicate j [])).map (tabP 0)) :: ownS tB 1 (.slice o6 c.length c6) c.length (c.flatMap bcells) :: l) := h9.swap.drop.swap
        obtain ⟨W9, hW9, h10⟩ := Sat.hide h9
        rw [← hW9]
        clear hW9 h9 H8 HT7 HRD HI2 HONE2 t0 t1 t2 t3 t4 tf
        obtain ⟨t0, t1, t2, t3, t4, tf⟩ := cells5 (Sat.blk h10 0 rfl)
        have H10 := Lib.hid h10
        clear h10
        refine wp_region_canon [(0, false, 10), (1, false, 7), (2, false, 7), (3, false, 7), (4, false, 7), (5, true, 0), (6, true, 0), (7, true, 0), (8, false, 10), (9, false, 10), (10, true, 0)] (by kernel_rfl) (by kernel_rfl) ?_
        iterate 5 (refine wpCan_read rfl rfl (fun K hK => ?_); go_simp; refine hK _ ?_; clear hK K)
        refine wpCan_eff rfl ?_
        refine wpList_do rfl (fun K hK => ?_)
        go_simp
        refine (New_ok H10.out.drew).mono ?_
        rintro e11 w11 ⟨t, rfl, ha⟩
        have h11 := tab_new ha
        clear ha t0 t1 t2 t3 t4 tf H10
        obtain ⟨t0, t1, t2, t3, t4, tf⟩ := cells5 (Sat.blk h11 1 rfl)
        have H11 := Lib.hid h11
        clear h11
        refine hK _ _ ?_
        clear hK K
        refine wpList_nil ?_
        refine And.intro ?_ ?_
        · go_simp
        refine wpCan_eff rfl ?_
        refine wpList_plain rfl (fun K hK => ?_)
        go_simp
        refine hK _ _ ?_
        clear hK K
        refine wpList_nil ?_
        have h12a := H11.out.alloc #[ptrV t] tPt
        have hrd := rd_block (size := 1) (n := 1) h12a.heap_blk rfl (by unfold maxLen; omega)
        obtain ⟨W12, hW12, h12⟩ := Sat.hide h12a
        clear h12a
        rw [← hW12] at hrd
        rw [show w11.alloc (.cells #[.pointer (some ⟨t, 0, none⟩)] tPt) = W12 from hW12.symm]
        generalize w11.heap.size = b12 at h12 hrd ⊢
        clear hW12 t0 t1 t2 t3 t4 tf H11
        obtain ⟨t0, t1, t2, t3, t4, tf⟩ := cells5 (Sat.blk h12 2 rfl)
        have ht12 := Sat.front h12 5 rfl
        simp only [List.eraseIdx_cons_succ, List.eraseIdx_cons_zero] at ht12
        have HT12 := Lib.hid ht12
        have HRD := Lib.hid hrd
        obtain ⟨i0, hi, hz0, hz1, hz2⟩ := info_parts infoPt
        have HI3 := Lib.hid (And.intro hi (And.intro hz0 (And.intro hz1 hz2)))
        have HONE3 := Lib.hid (show ∀ u ∈ [ptrV t], u.oneCell' = true by intro u hu; simp at hu; subst hu; rfl)
        clear hi hz0 hz1 hz2 h12 ht12 hrd
        refine And.intro ?_ ?_
        · go_simp
        refine wpCan_eff rfl ?_
        refine wpList_append_Sat _ rfl _ _ tPts rfl tPt i0 _ 1 8 Try.underlying65 HI3.out.1 HI3.out.2.1 HI3.out.2.2.1 HI3.out.2.2.2 rfl _ j (ts.map ptrV) rfl HT12.out _ 1 _ rfl HRD.out HONE3.out (by unfold maxLen; omega) (by omega) ?_
        intro v13 w13 h13 h13o
        obtain ⟨o13, c13, rfl⟩ := h13.own_shape
        clear t0 t1 t2 t3 t4 tf
        obtain ⟨t0, t1, t2, t3, t4, tf⟩ := cells5 (Sat.blk h13 3 rfl)
        have h14 := Sat.modify h13 3 rfl (fun _ h => h.set 1 (.slice o13 (j + 1) c13))
        simp only [List.set_cons_succ, List.set_cons_zero] at h14
        have h15 : Sat B D (w13.setCell ⟨s, 1, none⟩ (.slice o13 (j + 1) c13)) (tabG 0 t [] :: colP (.slice o6 c.length c6, c) :: blk s #[.slice o8 (j + 1) c8, .slice o13 (j + 1) c13, .int .i64 room, .int .i64 0, .int .i64 0] tSt :: ownS tTab 1 (.slice o8 (j + 1) c8) (j + 1) (hs ++ [.slice o6 c.length c6]) :: group ((hs.zip (cs.take j)).map colP) :: ownS tPt 1 (.slice o13 (j + 1) c13) (j + 1) (ts.map ptrV ++ [ptrV t]) :: group ((ts.zip (List.replicate j [])).map (tabP 0)) :: l) := by
          have q1 : Sat B D (w13.setCell ⟨s, 1, none⟩ (.slice o13 (j + 1) c13)) (ownS tPt 1 (.slice o13 (j + 1) c13) (j + 1) (ts.map ptrV ++ [ptrV t]) :: tabG 0 t [] :: blk s #[.slice o8 (j + 1) c8, .slice o13 (j + 1) c13, .int .i64 room, .int .i64 0, .int .i64 0] tSt :: ownS tTab 1 (.slice o8 (j + 1) c8) (j + 1) (hs ++ [.slice o6 c.length c6]) :: group ((hs.zip (cs.take j)).map colP) :: group ((ts.zip (List.replicate j [])).map (tabP 0)) :: colP (.slice o6 c.length c6, c) :: l) := h14.swap.drop
          have q2 := q1.front 6 rfl
          simp only [List.eraseIdx_cons_succ, List.eraseIdx_cons_zero] at q2
          have q3 := (q2.front 2 rfl)
          simp only [List.eraseIdx_cons_succ, List.eraseIdx_cons_zero] at q3
          refine q3.perm (List.Perm.cons _ (List.Perm.cons _ ?_))
          exact (List.perm_middle (l₁ := [blk s #[.slice o8 (j + 1) c8, .slice o13 (j + 1) c13, .int .i64 room, .int .i64 0, .int .i64 0] tSt, ownS tTab 1 (.slice o8 (j + 1) c8) (j + 1) (hs ++ [.slice o6 c.length c6]), group ((hs.zip (cs.take j)).map colP)]) (a := ownS tPt 1 (.slice o13 (j + 1) c13) (j + 1) (ts.map ptrV ++ [ptrV t])) (l₂ := group ((ts.zip (List.replicate j [])).map (tabP 0)) :: l)).symm
        have HF := Lib.hid (st_push HC.out HX.out h15)
        clear h13 h13o h14 h15 HT12 HRD HI3 HONE3
        refine wpList_nil ?_
        refine And.intro ?_ ?_
        · go_simp
        iterate 2 (refine wpCan_read rfl rfl (fun K hK => ?_); go_simp; refine hK _ ?_; clear hK K)
        refine wpCan_eff rfl ?_
        refine wpList_plain rfl (fun K hK => ?_)
        go_simp
        refine hK _ _ ?_
        clear hK K
        refine wpList_nil ?_
        refine And.intro ?_ ?_
        · go_simp
        refine wpCan_nil ?_
        go_wp2_with fail
        go_roundw
        case rel => exact ⟨j + 1, by go_num, by omega, HMJ.out, HF.out⟩
        case measure => simp [intOf]; omega
    · obtain rfl : j = N := by omega
      have HM := Lib.hid (HCA.out true (by rw [← hmay, List.take_of_length_le (by rw [HN.out]; omega)]))
      have HF := Lib.hid hsat
      clear hmay hsat
      go_wp2_with fail
      go_ret
      have hfin := bareClose HF.out
      rw [newM_bare, List.take_of_length_le (by rw [HN.out]; omega)] at hfin
      exact .inr ⟨HM.out, _, rfl, hfin⟩
end Go.Proofs.Ytcbklkcpjldcjaa
