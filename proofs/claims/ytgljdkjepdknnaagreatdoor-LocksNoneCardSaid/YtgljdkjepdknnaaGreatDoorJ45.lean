/- Joined texts: Readers of one row end, one behind the other, in whatever order; asking for locks where there is room. For whom and for what somebody waits. -/
import Derived.Test.YtgljdkjepdknnaaGreatDoorJ32
import Derived.Test.YtgljdkjepdknnaaGreatDoorJ40
import Derived.Test.YtgljdkjepdknnaaGreatDoorJ38
import Derived.Test.YtgljdkjepdknnaaGreatDoorJ44
/- Readers of one row end, one behind the other, in whatever order; asking for locks where there is room. -/
namespace Go.Proofs.YtgljdkjepdknnaaGreatDoor
set_option linter.unusedSimpArgs false

/-- who still reads -/
def grp (n : Nat) (s : Int) : Nat → List Int
  | 0 => (List.range n).map (fun (j : Nat) => (j : Int))
  | i + 1 => (grp n s i).filter (fun a => decide (a ≠ (s + (i : Int)) % (n : Int)))
theorem grp_mem {n : Nat} {s : Int} : ∀ {i : Nat} {x : Int}, x ∈ grp n s i ↔ (0 ≤ x ∧ x < (n : Int)) ∧ ∀ t : Nat, t < i → x ≠ (s + (t : Int)) % (n : Int)
  | 0, x => by
    unfold grp
    rw [List.mem_map]
    constructor
    · rintro ⟨j, hj, rfl⟩
      rw [List.mem_range] at hj
      exact ⟨⟨by omega, by omega⟩, fun t ht => absurd ht (Nat.not_lt_zero _)⟩
    · rintro ⟨⟨h1, h2⟩, _⟩
      exact ⟨x.toNat, List.mem_range.2 (by omega), by omega⟩
  | i + 1, x => by
    unfold grp
    rw [List.mem_filter, grp_mem]
    constructor
    · rintro ⟨⟨h1, h2⟩, h3⟩
      refine ⟨h1, fun t ht => ?_⟩
      by_cases hti : t < i
      · exact h2 t hti
      · obtain rfl : t = i := by omega
        simpa using h3
    · rintro ⟨h1, h2⟩
      exact ⟨⟨h1, fun t ht => h2 t (by omega)⟩, by simpa using h2 i (by omega)⟩
theorem eight {n : Nat} (h1 : 1 ≤ n) (h8 : n ≤ 8) : n = 1 ∨ n = 2 ∨ n = 3 ∨ n = 4 ∨ n = 5 ∨ n = 6 ∨ n = 7 ∨ n = 8 := by omega
theorem grp_at {n : Nat} {s : Int} (h8 : n ≤ 8) {i : Nat} (hi : i < n) : (s + (i : Int)) % (n : Int) ∈ grp n s i := by
  rw [grp_mem]
  rcases eight (by omega) h8 with rfl | rfl | rfl | rfl | rfl | rfl | rfl | rfl
  all_goals exact ⟨by omega, fun t ht => by omega⟩
theorem grp_end {n : Nat} {s : Int} (h1 : 1 ≤ n) (h8 : n ≤ 8) : grp n s n = [] := by
  rw [List.eq_nil_iff_forall_not_mem]
  intro x hx
  obtain ⟨h2, h3⟩ := grp_mem.1 hx
  have h4 := h3 (((x - s) % (n : Int)).toNat)
  rcases eight h1 h8 with rfl | rfl | rfl | rfl | rfl | rfl | rfl | rfl
  all_goals exact h4 (by omega) (by omega)
theorem grp_no {n : Nat} {s : Int} (h8 : n ≤ 8) {i : Nat} (hi : i < n) : grp n s i ≠ [] := List.ne_nil_of_mem (grp_at h8 hi)
theorem grp_big {n : Nat} {s : Int} {i : Nat} (h8 : n ≤ 8) {o : Int} (ho : 20 ≤ o) : o ∉ grp n s i := fun h => by have := (grp_mem.1 h).1.2; omega
theorem grp_len {n : Nat} {s : Int} : ∀ {i : Nat}, (grp n s i).length ≤ n
  | 0 => by unfold grp; simp
  | i + 1 => by unfold grp; exact Nat.le_trans (List.length_filter_le _ _) grp_len
theorem grp_put {n : Nat} (s : Int) (h1 : 1 ≤ n) (h8 : n ≤ 8) : (putAll (grp n s 0)).length = n := by
  unfold grp
  rcases eight h1 h8 with rfl | rfl | rfl | rfl | rfl | rfl | rfl | rfl <;> decide
theorem noteR_len (l : List Rsn) (o : Int) (c : Clm) (w : Int) : (noteR l o c w).length ≤ l.length + 1 := by
  unfold noteR
  split
  · split
    · rw [List.length_set]; omega
    · omega
  · simp
theorem forgetR_len (l : List Rsn) (o : Int) (p : Clm → Bool) : (forgetR l o p).length ≤ l.length := List.length_filter_le _ _
section
variable {c x : Clm} {G : List Int} {m : LkM}
theorem share_has {W : List (Ent Clm)} {o : Int} (y : Clm) (hm : m.q = shareW c x G W) (ho : o ∉ G) : hasK m o y = false := by
  have h : holdsQ m.q o = [] := by
    unfold holdsQ
    rw [hm, List.map_eq_nil_iff, List.filter_eq_nil_iff]
    intro e he
    obtain ⟨g, hg, rfl⟩ := List.mem_map.1 he
    have : g ≠ o := fun hh => ho (hh ▸ hg)
    simp [ofE, this]
  unfold hasK
  rw [h]
  rfl
theorem shareK_read {o : Int} (hm : m.q = shareQ c G) (ho : o ∉ G) (hl : G.length < 50) (hcc : RC.conf c c = false) : askK m 50 true o c 3 0 = (⟨shareQ c (G ++ [o]), noteR m.why o c 8⟩, true, 0) := by
  unfold askK
  rw [if_neg (by decide), if_neg (by rw [waitsQ_snd, hm]; simp [shareQ, waitAt]), if_neg (by
    rw [show hasK m o c = false from share_has (x := c) (W := []) c hm ho, hm]
    simp [shareQ]; omega)]
  rw [hm, share_ask ho hcc]
  rfl
theorem shareK_write {o : Int} (hm : m.q = shareQ c G) (ho : o ∉ G) (hG : G ≠ []) (hl : G.length < 50) (hcx : RC.conf c x = true) : askK m 50 true o x 3 0 = (⟨shareW c x G [rdE x o], noteR m.why o x 8⟩, false, 0) := by
  unfold askK
  rw [if_neg (by decide), if_neg (by rw [waitsQ_snd, hm]; simp [shareQ, waitAt]), if_neg (by
    rw [show hasK m o x = false from share_has (x := c) (W := []) x hm ho, hm]
    simp [shareQ]; omega)]
  rw [hm, share_wait ho hG hcx]
  rfl
theorem shareK_late {o p : Int} (hm : m.q = shareW c x G [rdE x o]) (hp : p ∉ G) (hop : o ≠ p) (hl : G.length < 49) (hxc : RC.conf x c = true) : askK m 50 true p c 3 0 = (⟨shareW c x G [rdE x o, rdE c p], noteR m.why p c 8⟩, false, 0) := by
  unfold askK
  rw [if_neg (by decide), if_neg (by rw [waitsQ_snd, hm]; simp [shareW, waitAt, ofE, hop]), if_neg (by
    rw [share_has c hm hp, hm]
    simp [shareW]; omega)]
  rw [hm, share_late hp hop hxc]
  rfl
end
end Go.Proofs.YtgljdkjepdknnaaGreatDoor

/- For whom and for what somebody waits. -/
namespace Go.Proofs.YtgljdkjepdknnaaGreatDoor
open Go.ChangeShapes Go.WideShapes Go.ChangeAt Go.RowKit
set_option maxRecDepth 100000
set_option linter.unusedSimpArgs false

/-- numbers of one's own are told; the locks stay -/
def BlocksL (B : World) (D : PH) (l : List HP) (L : Nat) (ts : List (List Bool)) (room : Int) (m : LkM) (os : List Int) (e : Ending) (w' : World) : Prop := ∃ u, e = .returned u ∧ Sat B D w' (intsP u os :: lksC D L ts room m :: l)
section
variable {B w : World} {D : PH} {l : List HP} {L : Nat} {ts : List (List Bool)} {room : Int} {m : LkM}
set_option maxHeartbeats 2000000 in
theorem Blockers_L (o : Int) (hD : EnvD D) (hM : m.q.held.length + m.q.waits.length ≤ 100000) (h : Sat B D w (lksC D L ts room m :: l)) :
    Calls Tryz.prog 28 #[.pointer (some ⟨L, 0, none⟩), .int .i64 o] w (BlocksL B D l L ts room m (putAll (blockL RC m.q o))) := by
  obtain ⟨q, tv, rv, rs, ht, hr, h1⟩ := lksOpen h
  have HT := Lib.hid ht
  have HR := Lib.hid hr
  obtain ⟨c0, c1, c2, c3, _⟩ := cells4 (h1.blk 0 rfl)
  have HB := Lib.hid (Blockers_C o hD hM h1.swap)
  clear h ht hr h1 hD
  generalize putAll (blockL RC m.q o) = os at *
  go_enter Tryz.func28, Tryz.ntmps28
  go_wp2_with (go_at_call 64; refine HB.out.mono ?_; rintro e1 w1 ⟨u, rfl, hs1⟩; have HS1 := Lib.hid hs1; clear hs1 HB c0 c1 c2 c3)
  go_ret
  exact ⟨_, rfl, (lksShut HT.out HR.out (((HS1.out.front 3 rfl).front 2 rfl).front 3 rfl)).swap⟩
/-- what is waited for, in what turns no more -/
def WaitsL (B : World) (D : PH) (l : List HP) (L : Nat) (ts : List (List Bool)) (room : Int) (m : LkM) (o : Int) (e : Ending) (w' : World) : Prop := ∃ (z : ClmE) (D' : PH), e = .returned (.tuple #[.agg z.cells.toArray, .bool (waitsQ m.q o).2]) ∧ z.c = (waitsQ m.q o).1 ∧ PH.le D D' ∧ ClOk D' z ∧ Sat B D' w' (lksC D L ts room m :: l)
set_option maxHeartbeats 4000000 in
theorem Waits_L (o : Int) (hsm : ClmSm 1000000 (waitsQ m.q o).1) (h : Sat B D w (lksC D L ts room m :: l)) :
    Calls Tryz.prog 25 #[.pointer (some ⟨L, 0, none⟩), .int .i64 o] w (WaitsL B D l L ts room m o) := by
  obtain ⟨q, tv, rv, rs, ht, hr, h1⟩ := lksOpen h
  have HT := Lib.hid ht
  have HR := Lib.hid hr
  have HSM := Lib.hid hsm
  obtain ⟨W1, hW1, hs1⟩ := Sat.hide (h1.alloc cZ tCl)
  have HW1 := Lib.hid hW1
  obtain ⟨c0, c1, c2, c3, _⟩ := cells4 (hs1.blk 1 rfl)
  have HW := Lib.hid (Waits_C o (hs1.front 2 rfl))
  clear h ht hr h1 hW1 hs1 hsm
  go_enter Tryz.func25, Tryz.ntmps25
  go_upto_region 1 with fail
  rw [← HW1.out]
  clear HW1
  generalize w.heap.size = br at HW ⊢
  go_upto_region 4 with (first
    | (go_at_call 42; refine HW.out.mono ?_; rintro e2 w2 ⟨z, rfl, hzc, hzo, hs2⟩; have HZC := Lib.hid hzc; have HZO := Lib.hid hzo; have HS2 := Lib.hid (hs2.alloc z.cells.toArray tCl); clear hzc hzo hs2 HW c0 c1 c2 c3)
    | (refine wpList_store_new rfl _ _ _ rfl z.cells _ _ rfl rfl (by kernel_rfl) rfl (ClmE.one z) ?_))
  obtain ⟨W3, hW3, hs3⟩ := Sat.hide HS2.out
  rw [← hW3]
  clear hW3 HS2
  generalize w2.heap.size = bz at hs3 ⊢
  have HL := Lib.hid (loadCl (blk_range (hs3.blk 0 rfl)))
  have HCL := Lib.hid (clone_C HZO.out (by rw [HZC.out]; exact HSM.out) hs3)
  clear hs3
  go_wp2_with (first
    | (refine wpList_ld rfl _ _ rfl _ _ rfl _ HL.out ?_)
    | (go_at_call 45; refine HCL.out.mono ?_; rintro e4 w4 ⟨y, D4, rfl, hyc, hle, hyo, hs4⟩; have HYC := Lib.hid hyc; have HLE := Lib.hid hle; have HYO := Lib.hid hyo; have HS4 := Lib.hid (hs4.front 2 rfl); clear hyc hle hyo hs4 HCL HL)
    | (refine wpList_store_whole rfl _ _ _ rfl tCl br rfl y.cells rfl cZ HS4.out (by kernel_rfl) rfl (ClmE.one y) ?_; intro w5 hs5; have HS5 := Lib.hid hs5; clear hs5 HS4))
  refine bodyPost_ret (results_c2 rfl _ _ rfl (loadCl (blk_range (HS5.out.blk 0 rfl)))) rfl ?_
  refine ⟨y, D4, rfl, by rw [HYC.out, HZC.out], HLE.out, HYO.out, ?_⟩
  have h6 := (HS5.out.drop.front 0 rfl).drop
  exact lksShut HT.out HR.out (h6.front 1 rfl)
end
end Go.Proofs.YtgljdkjepdknnaaGreatDoor
