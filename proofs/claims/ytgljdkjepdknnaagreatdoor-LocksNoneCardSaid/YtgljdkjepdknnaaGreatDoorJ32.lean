/- Joined texts: Locks as data: who holds what, and why; what their functions come to. What is held by a cursor's hand, as data: the steps of the law LocksHands. Readers of one row, and a writer behind them, as data: the steps of the law LocksShare. The document's example, as data. -/
import Derived.Test.YtgljdkjepdknnaaGreatDoorJ31
import Derived.Test.YtgljdkjepdknnaaGreatDoorJ17
/- Locks as data: who holds what, and why; what their functions come to. -/
namespace Go.Proofs.YtgljdkjepdknnaaGreatDoor
set_option linter.unusedSimpArgs false

/-- why an owner has a claim: a bit each -/
structure Rsn where
  o : Int
  c : Clm
  why : Int
structure LkM where
  q : Qm Clm
  why : List Rsn
noncomputable def ofR (o : Int) (c : Clm) (r : Rsn) : Bool := decide (r.o = o) && RC.same r.c c
noncomputable def atR (l : List Rsn) (o : Int) (c : Clm) : Option Nat := l.findIdx? (ofR o c)
def orR (w : Int) (r : Rsn) : Rsn := ⟨r.o, r.c, bits .or .u8 r.why w⟩
noncomputable def noteR (l : List Rsn) (o : Int) (c : Clm) (w : Int) : List Rsn := match atR l o c with
  | some k => match l[k]? with
    | some r => l.set k (orR w r)
    | none => l
  | none => l ++ [⟨o, c, w⟩]
def lessR (o w : Int) (r : Rsn) : Rsn := if r.o = o then ⟨r.o, r.c, bits .andNot .u8 r.why w⟩ else r
def overR (l : List Rsn) (o w : Int) : List Rsn := (l.map (lessR o w)).filter (fun r => !decide (r.why = 0))
def forgetR (l : List Rsn) (o : Int) (p : Clm → Bool) : List Rsn := l.filter (fun r => !(decide (r.o = o) && p r.c))
noncomputable def hasK (m : LkM) (o : Int) (c : Clm) : Bool := (holdsQ m.q o).any (fun h => RC.same h c)
noncomputable def dropK (m : LkM) (o : Int) (p : Clm → Bool) : LkM × List Int :=
  (⟨(dropQ RC m.q (goneP o ((holdsQ m.q o).filter p))).1, m.why⟩, (dropQ RC m.q (goneP o ((holdsQ m.q o).filter p))).2)
noncomputable def overK (m : LkM) (o w : Int) : LkM × List Int := dropK ⟨m.q, overR m.why o w⟩ o (fun c => (atR (overR m.why o w) o c).isNone)
noncomputable def endK (m : LkM) (o : Int) : LkM × List Int :=
  (⟨(dropQ RC (leaveQ RC m.q o).1 (ofE o)).1, forgetR m.why o (fun _ => true)⟩, (leaveQ RC m.q o).2 ++ (dropQ RC (leaveQ RC m.q o).1 (ofE o)).2)
noncomputable def leaveK (m : LkM) (o : Int) : LkM × List Int :=
  (⟨(leaveQ RC m.q o).1, if (waitsQ m.q o).2 && !hasK m o (waitsQ m.q o).1 then forgetR m.why o (fun d => RC.same d (waitsQ m.q o).1) else m.why⟩, (leaveQ RC m.q o).2)
/-- the bit of a reason; 0: it is none -/
def bitK (dur hand : Int) : Int := if dur = 1 then 1 else if dur = 3 then 8 else if dur = 2 ∧ 1 ≤ hand ∧ hand ≤ 2 then (if hand = 1 then 2 else 4) else 0
/-- asking; ok: whether the claim may be -/
noncomputable def askK (m : LkM) (room : Int) (ok : Bool) (o : Int) (c : Clm) (dur hand : Int) : LkM × Bool × Int :=
  if !ok || decide (bitK dur hand = 0) then (m, false, 111) else
  if (waitsQ m.q o).2 then (m, false, 110) else
  if !hasK m o c && decide (room ≤ ((m.q.held.length + m.q.waits.length : Nat) : Int)) then (m, false, 62) else
  (⟨(askQ RC m.q o c true).1, noteR m.why o c (bitK dur hand)⟩, (askQ RC m.q o c true).2, 0)

/-! one owner, one claim -/
abbrev q0K : Qm Clm := ⟨[], []⟩
abbrev q1K (o : Int) (c : Clm) : Qm Clm := ⟨[⟨o, c, false⟩], []⟩
theorem one_ask (o : Int) (c : Clm) : askQ RC q0K o c true = (q1K o c, true) := rfl
theorem one_again {o : Int} {c : Clm} (hs : RC.same c c = true) (hc : RC.cov c c = true) : askQ RC (q1K o c) o c true = (q1K o c, true) := by
  have ho : ownAt RC (q1K o c).held o c = some 0 := by
    unfold ownAt
    simp [sameE, hs]
  unfold askQ askFor
  rw [ho]
  simp [waitAt, hc]
theorem one_holds (o : Int) (c : Clm) : holdsQ (q1K o c) o = [c] := by unfold holdsQ; simp [ofE]
theorem one_keep (o : Int) (c : Clm) : dropQ RC (q1K o c) (goneP o []) = (q1K o c, []) := by
  unfold dropQ
  have : (q1K o c).held.filter (fun e => !goneP o [] e) = (q1K o c).held := by simp [goneP]
  rw [this]
  rfl
theorem one_gone {o : Int} {c : Clm} (hs : RC.same c c = true) : dropQ RC (q1K o c) (goneP o [c]) = (q0K, []) := by
  unfold dropQ
  have : (q1K o c).held.filter (fun e => !goneP o [c] e) = [] := by simp [goneP, hs]
  rw [this]
  rfl
/-- ending a bit of the only reason -/
theorem one_over {o : Int} {c : Clm} {a w : Int} (hs : RC.same c c = true) : overK ⟨q1K o c, [⟨o, c, a⟩]⟩ o w = if bits .andNot .u8 a w = 0 then (⟨q0K, []⟩, []) else (⟨q1K o c, [⟨o, c, bits .andNot .u8 a w⟩]⟩, []) := by
  have hr : overR [⟨o, c, a⟩] o w = if bits .andNot .u8 a w = 0 then [] else [⟨o, c, bits .andNot .u8 a w⟩] := by
    unfold overR lessR
    by_cases h : bits .andNot .u8 a w = 0 <;> simp [h]
  unfold overK dropK
  dsimp only
  rw [hr, one_holds]
  by_cases h : bits .andNot .u8 a w = 0
  · rw [if_pos h]
    have : [c].filter (fun c => (atR [] o c).isNone) = [c] := rfl
    rw [this, one_gone hs, if_pos h]
  · rw [if_neg h]
    have h1 : (atR [⟨o, c, bits .andNot .u8 a w⟩] o c).isNone = false := by unfold atR; simp [ofR, hs]
    have : [c].filter (fun d => (atR [⟨o, c, bits .andNot .u8 a w⟩] o d).isNone) = [] := by simp [h1]
    rw [this, one_keep, if_neg h]
theorem one_first {o : Int} {c : Clm} {dur hand room : Int} (hr : 0 < room) (hb : bitK dur hand ≠ 0) : askK ⟨q0K, []⟩ room true o c dur hand = (⟨q1K o c, [⟨o, c, bitK dur hand⟩]⟩, true, 0) := by
  unfold askK
  rw [if_neg (by simp [hb]), if_neg (by simp [waitsQ, waitAt]), if_neg (by simp; intro _; omega)]
  rfl
theorem one_more {o : Int} {c : Clm} {a dur hand room : Int} (hs : RC.same c c = true) (hc : RC.cov c c = true) (hb : bitK dur hand ≠ 0) : askK ⟨q1K o c, [⟨o, c, a⟩]⟩ room true o c dur hand = (⟨q1K o c, [⟨o, c, bits .or .u8 a (bitK dur hand)⟩]⟩, true, 0) := by
  have hn : noteR [⟨o, c, a⟩] o c (bitK dur hand) = [⟨o, c, bits .or .u8 a (bitK dur hand)⟩] := by
    have : atR [⟨o, c, a⟩] o c = some 0 := by unfold atR; simp [ofR, hs]
    unfold noteR
    rw [this]
    rfl
  unfold askK
  rw [if_neg (by simp [hb]), if_neg (by simp [waitsQ, waitAt]), if_neg (by simp [hasK, one_holds, hs])]
  dsimp only
  rw [one_again hs hc, hn]
end Go.Proofs.YtgljdkjepdknnaaGreatDoor

/- What is held by a cursor's hand, as data: the steps of the law LocksHands. -/
namespace Go.Proofs.YtgljdkjepdknnaaGreatDoor
set_option linter.unusedSimpArgs false

theorem bits_hands {hand : Int} (hh : hand = 1 ∨ hand = 2) : bitK 2 hand ≠ 0 ∧ bits .andNot .u8 (bitK 2 hand) (bitK 2 (3 - hand)) = bitK 2 hand ∧ bits .andNot .u8 (bitK 2 hand) 1 = bitK 2 hand ∧ bits .andNot .u8 (bitK 2 hand) (bitK 2 hand) = 0 := by
  rcases hh with rfl | rfl <;> decide
theorem bits_two {hand dur : Int} (hh : hand = 1 ∨ hand = 2) (hd : dur = 1 ∨ dur = 3) : bitK dur 0 ≠ 0 ∧ bits .andNot .u8 (bits .or .u8 (bitK 2 hand) (bitK dur 0)) (bitK 2 hand) = bitK dur 0 ∧ bits .andNot .u8 (bitK dur 0) 1 = (if dur = 3 then 8 else 0) := by
  rcases hh with rfl | rfl <;> rcases hd with rfl | rfl <;> decide
section
variable {o : Int} {c : Clm} (hs : RC.same c c = true) (hc : RC.cov c c = true) {hand dur : Int} (hh : hand = 1 ∨ hand = 2) (hd : dur = 1 ∨ dur = 3)
/-- the locks with one claim of one owner, for one reason -/
abbrev oneK (o : Int) (c : Clm) (a : Int) : LkM := ⟨q1K o c, [⟨o, c, a⟩]⟩
abbrev noK : LkM := ⟨q0K, []⟩
include hh
theorem hands_ask : askK noK 5 true o c 2 hand = (oneK o c (bitK 2 hand), true, 0) := one_first (by decide) (bits_hands hh).1
include hs
theorem hands_other : overK (oneK o c (bitK 2 hand)) o (bitK 2 (3 - hand)) = (oneK o c (bitK 2 hand), []) := by
  rw [one_over hs, (bits_hands hh).2.1, if_neg (bits_hands hh).1]
theorem hands_short : overK (oneK o c (bitK 2 hand)) o 1 = (oneK o c (bitK 2 hand), []) := by
  rw [one_over hs, (bits_hands hh).2.2.1, if_neg (bits_hands hh).1]
theorem hands_end : overK (oneK o c (bitK 2 hand)) o (bitK 2 hand) = (noK, []) := by
  rw [one_over hs, (bits_hands hh).2.2.2, if_pos rfl]
include hd
include hc in
theorem hands_more : askK (oneK o c (bitK 2 hand)) 5 true o c dur 0 = (oneK o c (bits .or .u8 (bitK 2 hand) (bitK dur 0)), true, 0) := one_more hs hc (bits_two hh hd).1
theorem hands_two : overK (oneK o c (bits .or .u8 (bitK 2 hand) (bitK dur 0))) o (bitK 2 hand) = (oneK o c (bitK dur 0), []) := by
  rw [one_over hs, (bits_two hh hd).2.1, if_neg (bits_two hh hd).1]
theorem hands_last : overK (oneK o c (bitK dur 0)) o 1 = (if dur = 3 then oneK o c 8 else noK, []) := by
  rw [one_over hs, (bits_two hh hd).2.2]
  rcases hd with rfl | rfl <;> rfl
end
end Go.Proofs.YtgljdkjepdknnaaGreatDoor

/- Readers of one row, and a writer behind them, as data: the steps of the law LocksShare. -/
namespace Go.Proofs.YtgljdkjepdknnaaGreatDoor
set_option linter.unusedSimpArgs false

theorem blockL_at {Q : Qm Clm} {o : Int} {k : Nat} {e : Ent Clm} (h : waitAt Q.waits o = some k) (he : Q.waits[k]? = some e) : blockL RC Q o = ((Q.held ++ Q.waits.take k).filter (meetsE RC o e.c)).map (fun e => e.o) := by unfold blockL; rw [h]; dsimp only; rw [he]
section
variable {c x : Clm} {G : List Int}
abbrev rdE (c : Clm) (o : Int) : Ent Clm := ⟨o, c, false⟩
/-- readers alone; with a writer that waits, and a reader behind it -/
def shareQ (c : Clm) (G : List Int) : Qm Clm := ⟨G.map (rdE c), []⟩
def shareW (c _x : Clm) (G : List Int) (W : List (Ent Clm)) : Qm Clm := ⟨G.map (rdE c), W⟩
theorem share_own {o : Int} (y : Clm) (h : o ∉ G) : ownAt RC (G.map (rdE c)) o y = none := by
  unfold ownAt
  rw [List.findIdx?_eq_none_iff]
  intro e he
  obtain ⟨g, hg, rfl⟩ := List.mem_map.1 he
  have : g ≠ o := fun hh => h (hh ▸ hg)
  simp [sameE, this]
theorem share_any (y : Clm) {o : Int} (h : RC.conf c y = false) : (G.map (rdE c)).any (meetsE RC o y) = false := by
  rw [List.any_eq_false]
  intro e he
  obtain ⟨g, _, rfl⟩ := List.mem_map.1 he
  simp [meetsE, h]
theorem share_met (y : Clm) {o : Int} (hn : o ∉ G) (hG : G ≠ []) (h : RC.conf c y = true) : (G.map (rdE c)).any (meetsE RC o y) = true := by
  rw [List.any_eq_true]
  obtain ⟨g, hg⟩ := List.exists_mem_of_ne_nil _ hG
  have : g ≠ o := fun hh => hn (hh ▸ hg)
  exact ⟨rdE c g, List.mem_map_of_mem hg, by simp [meetsE, this, h]⟩
theorem share_ask {o : Int} (h : o ∉ G) (hcc : RC.conf c c = false) : askQ RC (shareQ c G) o c true = (shareQ c (G ++ [o]), true) := by
  have hf : askFor RC (shareQ c G) o c = some (⟨o, c, false⟩, 0) := by unfold askFor; rw [show ownAt RC (shareQ c G).held o c = none from share_own c h]; rfl
  rw [askQ_go rfl hf, if_pos (by unfold freeE; rw [show (shareQ c G).held.any (meetsE RC o c) = false from share_any c hcc]; rfl)]
  unfold giveQ giveL
  rw [show ownAt RC (shareQ c G).held o c = none from share_own c h]
  simp [shareQ, Ent.less]
theorem share_wait {o : Int} (h : o ∉ G) (hG : G ≠ []) (hcx : RC.conf c x = true) : askQ RC (shareQ c G) o x true = (shareW c x G [rdE x o], false) := by
  have hf : askFor RC (shareQ c G) o x = some (⟨o, x, false⟩, 0) := by unfold askFor; rw [show ownAt RC (shareQ c G).held o x = none from share_own x h]; rfl
  rw [askQ_go rfl hf, if_neg (by unfold freeE; rw [show (shareQ c G).held.any (meetsE RC o x) = true from share_met x h hG hcx]; simp), if_pos rfl]
  rfl
theorem share_late {o p : Int} (h : p ∉ G) (hop : o ≠ p) (hxc : RC.conf x c = true) : askQ RC (shareW c x G [rdE x o]) p c true = (shareW c x G [rdE x o, rdE c p], false) := by
  have hf : askFor RC (shareW c x G [rdE x o]) p c = some (⟨p, c, false⟩, 1) := by unfold askFor; rw [show ownAt RC (shareW c x G [rdE x o]).held p c = none from share_own c h]; rfl
  have hw : (waitAt (shareW c x G [rdE x o]).waits p).isSome = false := by simp [waitAt, shareW, ofE, hop]
  rw [askQ_go hw hf, if_neg (by unfold freeE; simp [shareW, meetsE, hop, hxc]), if_pos rfl]
  rfl
theorem share_stuck {o p : Int} (ho : o ∉ G) (hop : o ≠ p) (hG : G ≠ []) (hcx : RC.conf c x = true) (hxc : RC.conf x c = true) : movedQ RC (shareW c x G [rdE x o, rdE c p]) = (shareW c x G [rdE x o, rdE c p], []) := by
  refine moved_none (first_no (fun j hj => ?_))
  have : j = 0 ∨ j = 1 := by simp [shareW] at hj; omega
  rcases this with rfl | rfl
  · rw [can_at (e := rdE x o) rfl]
    unfold freeE
    rw [show (shareW c x G [rdE x o, rdE c p]).held.any (meetsE RC o x) = true from share_met x ho hG hcx]
    rfl
  · rw [can_at (e := rdE c p) rfl]
    unfold freeE
    simp [shareW, meetsE, hop, hxc]
theorem share_leave {o p g : Int} (hgo : o ≠ g) (hgp : p ≠ g) (ho : o ∉ G) (hop : o ≠ p) (hG : G ≠ []) (hcx : RC.conf c x = true) (hxc : RC.conf x c = true) : leaveQ RC (shareW c x G [rdE x o, rdE c p]) g = (shareW c x G [rdE x o, rdE c p], []) := by
  unfold leaveQ
  rw [show (⟨(shareW c x G [rdE x o, rdE c p]).held, (shareW c x G [rdE x o, rdE c p]).waits.filter (fun e => !ofE g e)⟩ : Qm Clm) = shareW c x G [rdE x o, rdE c p] by simp [shareW, ofE, hgo, hgp]]
  exact share_stuck ho hop hG hcx hxc
theorem share_drop {g : Int} (W : List (Ent Clm)) : (⟨(shareW c x G W).held.filter (fun e => !ofE g e), (shareW c x G W).waits⟩ : Qm Clm) = shareW c x (G.filter (fun a => decide (a ≠ g))) W := by
  unfold shareW
  rw [List.filter_map]
  congr 2
  apply List.filter_congr
  intro a _
  simp [ofE]
/-- one of several readers ends -/
theorem share_end {m : LkM} {o p g : Int} (hm : m.q = shareW c x G [rdE x o, rdE c p]) (hgo : o ≠ g) (hgp : p ≠ g) (ho : o ∉ G) (hop : o ≠ p) (hG : G.filter (fun a => decide (a ≠ g)) ≠ []) (hcx : RC.conf c x = true) (hxc : RC.conf x c = true) :
    endK m g = (⟨shareW c x (G.filter (fun a => decide (a ≠ g))) [rdE x o, rdE c p], forgetR m.why g (fun _ => true)⟩, []) := by
  have hG0 : G ≠ [] := fun h => hG (by rw [h]; rfl)
  unfold endK
  rw [hm, share_leave hgo hgp ho hop hG0 hcx hxc]
  unfold dropQ
  dsimp only
  rw [share_drop, share_stuck (fun h => ho (List.mem_filter.1 h).1) hop hG hcx hxc]
  rfl
/-- the last reader ends -/
theorem share_last {m : LkM} {o p g : Int} (hm : m.q = shareW c x G [rdE x o, rdE c p]) (hgo : o ≠ g) (hgp : p ≠ g) (ho : o ∉ G) (hop : o ≠ p) (hG0 : G ≠ []) (hG : G.filter (fun a => decide (a ≠ g)) = []) (hcx : RC.conf c x = true) (hxc : RC.conf x c = true) :
    endK m g = (⟨shareW x c [o] [rdE c p], forgetR m.why g (fun _ => true)⟩, [o]) := by
  have hmv : movedQ RC (shareW c x [] [rdE x o, rdE c p]) = (shareW x c [o] [rdE c p], [o]) := by
    have h0 : firstFree RC (shareW c x [] [rdE x o, rdE c p]) = some 0 := first_at (by simp [shareW]) (fun j hj => absurd hj (Nat.not_lt_zero _)) (by rw [can_at (e := rdE x o) rfl]; rfl)
    rw [moved_some h0 (e := rdE x o) rfl]
    have h1 : giveQ RC ⟨(shareW c x [] [rdE x o, rdE c p]).held, (shareW c x [] [rdE x o, rdE c p]).waits.eraseIdx 0⟩ (rdE x o) = shareW x c [o] [rdE c p] := rfl
    rw [h1, moved_none (first_no (fun j hj => ?_))]
    have : j = 0 := by simp [shareW] at hj; omega
    subst this
    rw [can_at (e := rdE c p) rfl]
    unfold freeE
    simp [shareW, meetsE, hop, hxc]
  unfold endK
  rw [hm, share_leave hgo hgp ho hop hG0 hcx hxc]
  unfold dropQ
  dsimp only
  rw [share_drop, hG, hmv]
  rfl
/-- the writer ends -/
theorem share_writer {m : LkM} {o p : Int} (hm : m.q = shareW x c [o] [rdE c p]) (hop : o ≠ p) (hxc : RC.conf x c = true) :
    endK m o = (⟨shareQ c [p], forgetR m.why o (fun _ => true)⟩, [p]) := by
  have h1 : leaveQ RC (shareW x c [o] [rdE c p]) o = (shareW x c [o] [rdE c p], []) := by
    unfold leaveQ
    rw [show (⟨(shareW x c [o] [rdE c p]).held, (shareW x c [o] [rdE c p]).waits.filter (fun e => !ofE o e)⟩ : Qm Clm) = shareW x c [o] [rdE c p] by simp [shareW, ofE, Ne.symm hop]]
    refine moved_none (first_no (fun j hj => ?_))
    have : j = 0 := by simp [shareW] at hj; omega
    subst this
    rw [can_at (e := rdE c p) rfl]
    unfold freeE
    simp [shareW, meetsE, hop, hxc]
  have h2 : dropQ RC (shareW x c [o] [rdE c p]) (ofE o) = (shareQ c [p], [p]) := by
    unfold dropQ
    rw [share_drop]
    have h3 : [o].filter (fun a => decide (a ≠ o)) = [] := by simp
    rw [h3]
    have h0 : firstFree RC (shareW x c [] [rdE c p]) = some 0 := first_at (by simp [shareW]) (fun j hj => absurd hj (Nat.not_lt_zero _)) (by rw [can_at (e := rdE c p) rfl]; rfl)
    rw [moved_some h0 (e := rdE c p) rfl]
    have h4 : giveQ RC ⟨(shareW x c [] [rdE c p]).held, (shareW x c [] [rdE c p]).waits.eraseIdx 0⟩ (rdE c p) = shareQ c [p] := rfl
    rw [h4, moved_none (first_no (fun j hj => absurd hj (Nat.not_lt_zero _)))]
  unfold endK
  rw [hm, h1]
  dsimp only
  rw [h2]
  rfl
theorem share_block {o p : Int} (ho : o ∉ G) (hcx : RC.conf c x = true) : blockL RC (shareW c x G [rdE x o, rdE c p]) o = G := by
  have hw : waitAt (shareW c x G [rdE x o, rdE c p]).waits o = some 0 := by
    show List.findIdx? (ofE o) [rdE x o, rdE c p] = some 0
    rw [List.findIdx?_cons]
    simp [ofE]
  rw [blockL_at hw (e := rdE x o) rfl]
  have hf : (shareW c x G [rdE x o, rdE c p]).held.filter (meetsE RC o x) = (shareW c x G [rdE x o, rdE c p]).held := by
    rw [List.filter_eq_self]
    intro e he
    obtain ⟨g, hg, rfl⟩ := List.mem_map.1 he
    have : g ≠ o := fun hh => ho (hh ▸ hg)
    simp [meetsE, this, hcx]
  rw [List.take_zero, List.append_nil, hf]
  unfold shareW
  rw [List.map_map]
  exact List.map_id _
theorem share_block2 {o p : Int} (hop : o ≠ p) (hxc : RC.conf x c = true) : blockL RC (shareW x c [o] [rdE c p]) p = [o] := by
  have hw : waitAt (shareW x c [o] [rdE c p]).waits p = some 0 := by simp [waitAt, shareW, ofE]
  rw [blockL_at hw (e := rdE c p) rfl]
  simp [shareW, meetsE, hop, hxc]
end
end Go.Proofs.YtgljdkjepdknnaaGreatDoor

/- The document's example, as data. -/
namespace Go.Proofs.YtgljdkjepdknnaaGreatDoor
set_option linter.unusedSimpArgs false

section
variable {c x : Clm} (hs : RC.same c c = true) (hv : RC.cov c c = true)
include hs in
theorem aw_short {o : Int} : overK ⟨q1K o c, [⟨o, c, 9⟩]⟩ o 1 = (⟨q1K o c, [⟨o, c, 8⟩]⟩, []) := by
  rw [one_over hs, show bits .andNot .u8 9 1 = 8 by decide, if_neg (by decide)]
/-- one holds; another one asks for what it can't share -/
theorem aw_wait {o p r room : Int} (hop : o ≠ p) (hcx : RC.conf c x = true) (hr : 2 ≤ room) : askK ⟨q1K o c, [⟨o, c, r⟩]⟩ room true p x 3 0 = (⟨shareW c x [o] [rdE x p], [⟨o, c, r⟩, ⟨p, x, 8⟩]⟩, false, 0) := by
  have h1 : askQ RC (q1K o c) p x true = (shareW c x [o] [rdE x p], false) := share_wait (G := [o]) (by simp; exact fun h => hop h.symm) (by simp) hcx
  have h2 : noteR [⟨o, c, r⟩] p x (bitK 3 0) = [⟨o, c, r⟩, ⟨p, x, 8⟩] := by
    have : atR [⟨o, c, r⟩] p x = none := by unfold atR; simp [ofR, hop]
    unfold noteR
    rw [this]
    rfl
  unfold askK
  rw [if_neg (by decide), if_neg (by simp [waitsQ, waitAt]), if_neg (by simp; intro _; omega)]
  dsimp only
  rw [h1, h2]
theorem aw_end {o p : Int} {why : List Rsn} (hop : o ≠ p) (hcx : RC.conf c x = true) : endK ⟨shareW c x [o] [rdE x p], why⟩ o = (⟨shareQ x [p], forgetR why o (fun _ => true)⟩, [p]) := by
  have h1 : leaveQ RC (shareW c x [o] [rdE x p]) o = (shareW c x [o] [rdE x p], []) := by
    unfold leaveQ
    rw [show (⟨(shareW c x [o] [rdE x p]).held, (shareW c x [o] [rdE x p]).waits.filter (fun e => !ofE o e)⟩ : Qm Clm) = shareW c x [o] [rdE x p] by simp [shareW, ofE, Ne.symm hop]]
    refine moved_none (first_no (fun j hj => ?_))
    have : j = 0 := by simp [shareW] at hj; omega
    subst this
    rw [can_at (e := rdE x p) rfl]
    unfold freeE
    simp [shareW, meetsE, hop, hcx]
  have h2 : dropQ RC (shareW c x [o] [rdE x p]) (ofE o) = (shareQ x [p], [p]) := by
    unfold dropQ
    rw [share_drop]
    have h3 : [o].filter (fun a => decide (a ≠ o)) = [] := by simp
    rw [h3]
    have h0 : firstFree RC (shareW c x [] [rdE x p]) = some 0 := first_at (by simp [shareW]) (fun j hj => absurd hj (Nat.not_lt_zero _)) (by rw [can_at (e := rdE x p) rfl]; rfl)
    rw [moved_some h0 (e := rdE x p) rfl]
    have h4 : giveQ RC ⟨(shareW c x [] [rdE x p]).held, (shareW c x [] [rdE x p]).waits.eraseIdx 0⟩ (rdE x p) = shareQ x [p] := rfl
    rw [h4, moved_none (first_no (fun j hj => absurd hj (Nat.not_lt_zero _)))]
  unfold endK
  rw [h1]
  dsimp only
  rw [h2]
  rfl
end
end Go.Proofs.YtgljdkjepdknnaaGreatDoor
