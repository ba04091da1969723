/- A part of a predicate (pred.checker.part). -/
import Derived.Test.YtdobimafhbfkhaaGreatOY9
set_option maxHeartbeats 64000000
namespace Go.Proofs.YtdobimafhbfkhaaGreat
open Go.ChangeShapes Go.WideShapes Go.ChangeAt Go.RowKit
set_option maxRecDepth 100000
set_option linter.unusedSimpArgs false
def sL (B:World)(D:PH)(l:List HP)(ck:Nat)(cv:Value)(b:Bool)(e:Ending)(w':World):Prop:=e = .returned (.tuple #[])∧Sat B D w' (blk ck #[cv,.bool b] tCk::l)
theorem Sat.setCk {B w:World}{D:PH}{l:List HP}{ck:Nat}{cv:Value}{b:Bool}(hs:Sat B D w (Proofs.YtdobimafhbfkhaaGreat.blk ck #[cv,.bool b] tCk::l))(u:Bool):Sat B D (w.setCell ⟨ck,1,none⟩ (.bool u)) (Proofs.YtdobimafhbfkhaaGreat.blk ck #[cv,.bool u] tCk::l):=hs.set 1 (.bool u)
theorem part_ok {B w : World} {D : PH} {l : List HP} {ck : Nat} {cv : Value} {b : Bool} {c : List Bool} (x : PredE) (hn : x.ln = x.subs.length) (hc : ∀ W, Kept (fun _ => False) w W → fH W cv c) (h : Sat B D w (blk ck #[cv, .bool b] tCk :: l)) :
    Calls Tryz.prog 46 #[.pointer (some ⟨ck, 0, none⟩), .agg x.cells.toArray] w (sL B D l ck cv (b || !aI c x.p)) := by
  obtain ⟨op, col, v, w0, la, n, lc, subs⟩ := x
  show Calls _ _ _ _ (sL B D l ck cv (b || !aI c (.mk op col v w0 subs)))
  obtain ⟨W1, hW1, hs1⟩ := Sat.hide (h.alloc (PredE.cells ⟨op, col, v, w0, la, n, lc, subs⟩).toArray tPr)
  have wN := FH (show Kept (fun _ => False) w W1 by rw [hW1]; exact (Kept.refl _ _).alloc _)
  have wM := FH hW1
  have wG := FH hs1
  have HC := FH hc
  replace hn : n = subs.length := hn
  clear h hW1 hs1 hc
  obtain ⟨pk, hpk⟩ : ∃ r, aI c (.mk op col v w0 subs) = r := ⟨_, rfl⟩
  rw [hpk]
  have hz : n = 0 ∨ (n = 1 ∧ op = 10) ∨ (0 < n ∧ (op ≠ 10 ∨ n ≠ 1)) := by omega
  have hop : op = 1 ∨ op = 2 ∨ op = 10 ∨ op = 11 ∨ op = 12 ∨ (op = 9 ∧ 0 < n) ∨ (3 ≤ op ∧ op ≤ 8) ∨ (op = 9 ∧ n = 0) ∨ op < 1 ∨ 12 < op := by omega
  rcases hop with rfl | rfl | rfl | rfl | rfl | ⟨rfl, h0⟩ | h3 | ⟨rfl, rfl⟩ | h3 | h3
  case' inr.inr.inr.inr.inr.inr.inl =>
    have h9 : op = 3 ∨ op = 4 ∨ op = 5 ∨ op = 6 ∨ op = 7 ∨ op = 8 := by omega
    clear h3
    rcases h9 with rfl | rfl | rfl | rfl | rfl | rfl
  case' inr.inr.inr.inr.inr.inr.inr.inl =>
    obtain rfl : subs = [] := F7.1 hn.symm
    obtain ⟨rv, hrv⟩ : ∃ r, cC c col v = r := ⟨_, rfl⟩
    obtain ⟨rr, hrr⟩ : ∃ r, cC c col w0 = r := ⟨_, rfl⟩
    have Aw := FH hrv
    have xD := FH hrr
    have hp : pk = (rv && rr) := by rw [← hpk]; unfold aI; simp only [PredT.op, PredT.col, PredT.v, PredT.w, PredT.l]; simp [hrv, hrr]
    subst hp
    clear hrv hrr hn hpk
    cases rv <;> cases b
    all_goals
      go_enter Tryz.func46, Tryz.ntmps46
      go_upto_region 1 with fail
      rw [← wM.out]
      clear wM
      generalize w.heap.size = bx at wG ⊢
      obtain ⟨x0, x1, x2, x3, x4, x5, x6, x7, x8⟩ := cu (wG.out.blk 0 rfl)
      obtain ⟨d0, d1, df⟩ := dA (wG.out.blk 1 rfl)
      have xS := FH (uO (w := W1) col v (wG.out.blk 1 rfl) (HC.out W1 wN.out))
      rw [Aw.out] at xS
      go_wp2_with (first | (go_at_call 66; refine xS.out.mono ?_; rintro e1 w1 ⟨rfl, hk1⟩; have wN := FH (wN.out.trans hk1 (fun _ h => h.elim)); have wG := FH (wG.out.kept hk1); clear hk1 xS; clear d0 d1 df x0 x1 x2 x3 x4 x5 x6 x7 x8; obtain ⟨x0, x1, x2, x3, x4, x5, x6, x7, x8⟩ := cu (wG.out.blk 0 rfl); obtain ⟨d0, d1, df⟩ := dA (wG.out.blk 1 rfl); have BD := FH (uO (w := w1) col w0 (wG.out.blk 1 rfl) (HC.out w1 wN.out)); rw [xD.out] at BD) | (go_at_call 66; refine BD.out.mono ?_; rintro e2 w2 ⟨rfl, hk2⟩; have wG := FH (wG.out.kept hk2); clear hk2 BD; clear d0 d1 df x0 x1 x2 x3 x4 x5 x6 x7 x8; obtain ⟨x0, x1, x2, x3, x4, x5, x6, x7, x8⟩ := cu (wG.out.blk 0 rfl); obtain ⟨d0, d1, df⟩ := dA (wG.out.blk 1 rfl)))
      go_end0
      exact ⟨rfl, (Sat.setCk wG.out.swap _).swap.drop⟩
  all_goals
    rcases hz with rfl | ⟨rfl, hz⟩ | ⟨hz, hy⟩
    all_goals try omega
    all_goals
      first
        | (have hs : subs = [] := F7.1 hn.symm; subst hs; have he : ([] : List PredT).isEmpty = true := rfl)
        | have he : subs.isEmpty = false := by cases subs <;> first | rfl | (simp at hn; done) | (simp at hn; omega)
      first
        | (have z1 : ¬ (n : Int) = 0 := by omega
           have z3 : (n : Int) > 0 := by omega
           try have z2 : ¬ (n : Int) = 1 := by omega)
        | skip
      first
        | (have hp : pk = true := by rw [← hpk]; unfold aI; simp only [PredT.op, PredT.col, PredT.v, PredT.w, PredT.l]; simp [he, ← hn]
           subst hp)
        | (have hp : pk = true := by rw [← hpk]; unfold aI; simp only [PredT.op, PredT.col, PredT.v, PredT.w, PredT.l]; simp [he, ← hn]; omega
           subst hp)
        | (have hp : pk = false := by rw [← hpk]; unfold aI; simp only [PredT.op, PredT.col, PredT.v, PredT.w, PredT.l]; simp [he, ← hn]
           subst hp)
        | (have hp : pk = false := by rw [← hpk]; unfold aI; simp only [PredT.op, PredT.col, PredT.v, PredT.w, PredT.l]; simp [he, ← hn]; omega
           subst hp)
        | (have hp : pk = false := by
             rw [← hpk]
             unfold aI
             show (if op = 1 ∨ op = 2 then _ else if 3 ≤ op ∧ op ≤ 8 then _ else if op = 9 then _ else if op = 10 then _ else if op = 11 ∨ op = 12 then _ else false) = false
             rw [if_neg (by omega), if_neg (by omega), if_neg (by omega), if_neg (by omega), if_neg (by omega)]
           subst hp)
        | (have hp : pk = cC c col v := by rw [← hpk]; unfold aI; simp only [PredT.op, PredT.col, PredT.v, PredT.w, PredT.l]; simp
           subst hp)
      clear hpk
      try clear hy
      try clear he
      clear hn
      cases b
    all_goals
      go_enter Tryz.func46, Tryz.ntmps46
      go_upto_region 1 with fail
      rw [← wM.out]
      clear wM
      generalize w.heap.size = bx at wG ⊢
      obtain ⟨x0, x1, x2, x3, x4, x5, x6, x7, x8⟩ := cu (wG.out.blk 0 rfl)
      obtain ⟨d0, d1, df⟩ := dA (wG.out.blk 1 rfl)
      first
        | (go_wp2_with fail
           go_end0
           first
             | exact ⟨rfl, (Sat.setCk wG.out.swap _).swap.drop⟩
             | exact ⟨rfl, (show (!((n : Int) == 0)) = true by simp; omega) ▸ (Sat.setCk wG.out.swap (!((n : Int) == 0))).swap.drop⟩
             | exact ⟨rfl, (show (!((n : Int) == 1)) = true by simp; omega) ▸ (Sat.setCk wG.out.swap (!((n : Int) == 1))).swap.drop⟩)
        | (have xS := FH (uO (w := W1) col v (wG.out.blk 1 rfl) (HC.out W1 wN.out))
           generalize cC c col v = rr at *
           go_wp2_with (go_at_call 66; refine xS.out.mono ?_; rintro e1 w1 ⟨rfl, hk1⟩; have wG := FH (wG.out.kept hk1); clear hk1 xS; clear d0 d1 df x0 x1 x2 x3 x4 x5 x6 x7 x8; obtain ⟨x0, x1, x2, x3, x4, x5, x6, x7, x8⟩ := cu (wG.out.blk 0 rfl); obtain ⟨d0, d1, df⟩ := dA (wG.out.blk 1 rfl))
           go_end0
           exact ⟨rfl, (Sat.setCk wG.out.swap _).swap.drop⟩)
end Go.Proofs.YtdobimafhbfkhaaGreat
