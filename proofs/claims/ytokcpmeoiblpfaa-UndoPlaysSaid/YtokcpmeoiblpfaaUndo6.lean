/- Contract of undo.(*Log).cut. -/
import Derived.Test.YtokcpmeoiblpfaaUndo5
namespace Go.Proofs.Ytokcpmeoiblpfaa
open Go.ChangeShapes Go.WideShapes Go.ChangeAt Go.RowKit
set_option maxRecDepth 100000

/-- what is told: a slice of one's own -/
def Told (w w' : World) (n : Nat) (l : List Ent) (S : Nat → Prop) (v : Value) : Prop :=
  Own w' tEnt 5 v n (l.flatMap Ent.cells) ∧ (∀ k, v.ownBlock = some k → NewIn w w' k ∧ ¬ S k)

set_option maxHeartbeats 4000000 in
theorem cut_ok {w : World} {b : Nat} {m : LogM} {S : Nat → Prop} {at_ : Nat} (hat : at_ ≤ m.es.length) (h60 : m.es.length ≤ 60) (h : LogAt w b m S) :
    Calls Try.prog 20 #[.pointer (some ⟨b, 0, none⟩), .int .i64 at_] w fun e w' => ∃ ao cap, e = .returned (.slice ao (m.es.length - at_) cap) ∧
      Told w w' (m.es.length - at_) (m.es.drop at_).reverse S (.slice ao (m.es.length - at_) cap) ∧ LogAt w' b { m with es := m.es.take at_ } S ∧ Kept S w w' := by
  obtain ⟨mb, lv, ov, h1, hS⟩ := h
  obtain ⟨ta, tc, htail, hrd⟩ := tailEnt h1.own hat
  have hbl := lt_of_heap h1.blk
  obtain ⟨c0, c1, c2, c3, c4, c5, c6, c7, hf⟩ := cells8 h1.blk
  obtain ⟨lo, lc, hv, -⟩ := h1.own.rd.2.2
  rw [hv] at htail c1
  have HH := Lib.hid h1
  have HS := Lib.hid hS
  have HV := Lib.hid hv
  have HRD := Lib.hid hrd
  clear h1 hS hv hrd
  go_enter Try.func20, Try.ntmps20
  go_wp2_with fail
  refine (cloneEnts HRD.out (one_ents HH.out.own.2.1 (fun x hx => List.mem_of_mem_drop hx)) (by omega)).mono ?_
  rintro e1 w1 ⟨wao, wcap, rfl, hwv, hk1, hnew1⟩
  have L1 : LogR w1 b mb lv ov m := HH.out.frame hk1 (fun _ _ h => h)
  have HWV := Lib.hid hwv
  have HK1 := Lib.hid hk1
  have HN1 := Lib.hid hnew1
  have HL1 := Lib.hid L1
  clear hwv hk1 hnew1 L1 htail c0 c1 c2 c3 c4 c5 c6 c7 hf
  go_wp2_with fail
  have hd : (m.es.drop at_).length = m.es.length - at_ := by simp
  have hw1 : Own w1 tEnt 5 (.slice wao (m.es.length - at_) wcap) (m.es.drop at_).length ((m.es.drop at_).flatMap Ent.cells) := by rw [hd]; exact HWV.out
  refine (reverse_ents (m.es.drop at_) hw1).mono ?_
  rintro e2 w2 ⟨rfl, hrev, hk2, hsz2⟩
  rw [hd] at hrev
  have hnS : ∀ k, (Value.slice wao (m.es.length - at_) wcap).ownBlock = some k → ¬ LogS b mb lv ov k := fun k hk hs => by
    have a := HN1.out k hk
    have c := HH.out.lt k hs
    unfold NewIn at a
    omega
  have L2 : LogR w2 b mb lv ov m := HL1.out.frame hk2 (fun k hk e => hnS k e hk)
  have K2 : Kept (fun _ => False) w w2 := HK1.out.trans hk2 (fun k e => .inr (HN1.out k e).1)
  have hnew2 : ∀ g, (Value.slice wao (m.es.length - at_) wcap).ownBlock = some g → NewIn w w2 g := fun g hg => ⟨(HN1.out g hg).1, by have := (HN1.out g hg).2; omega⟩
  have L2' := L2
  obtain ⟨ha, hc, hhead, hown, hblk⟩ := headEnt L2.own hat
  obtain ⟨c0, c1, c2, c3, c4, c5, c6, c7, hf⟩ := cells8 L2.blk
  rw [HV.out] at c1 hhead
  have HL2 := Lib.hid L2'
  have HREV := Lib.hid hrev
  have HK2 := Lib.hid K2
  have HN2 := Lib.hid hnew2
  have HOWN := Lib.hid hown
  have HBLK := Lib.hid hblk
  have HNS := Lib.hid hnS
  clear hd hw1 L2 L2' hrev hk2 K2 hnew2 hsz2 hown hblk hnS
  go_wp2_with fail
  go_ret
  have hs := Kept.set_at w2 b 1 (.slice ha at_ hc)
  have L := HL2.out
  have hob : ∀ k, (Value.slice ha at_ hc).ownBlock = some k ↔ lv.ownBlock = some k := fun k => by rw [HBLK.out]
  have htl : (m.es.take at_).length = at_ := by simp; omega
  refine ⟨wao, wcap, rfl, ⟨HREV.out.kept hs (fun k hk e => HNS.out k hk (.inl e)), fun k hk => ⟨by have := HN2.out k hk; unfold NewIn at *; rw [size_setCell]; exact this, fun hs => HNS.out k hk ((HS.out k).1 hs)⟩⟩, ⟨mb, .slice ha at_ hc, ov, ?_, fun k => ?_⟩, ?_⟩
  · refine ⟨heap_setCell_at L.blk _, ?_, L.ord.kept hs (fun k hk e => L.ne4 (by rw [hk, e])), L.map.frame (heap_setCell_ne _ (fun e => L.ne1 e.symm)), L.ne1, ?_, ?_, L.ne4, L.ne5, ?_⟩
    · show Own _ tEnt 5 _ (m.es.take at_).length ((m.es.take at_).flatMap Ent.cells)
      rw [htl]
      exact HOWN.out.kept hs (fun k hk e => L.ne2 (by rw [(hob k).1 hk, e]))
    · exact fun e => L.ne2 ((hob _).1 e)
    · exact fun e => L.ne3 ((hob _).1 e)
    · exact fun k hk => L.ne6 k ((hob _).1 hk)
  · rw [HS.out k]
    unfold LogS
    rw [hob k]
  · exact (HK2.out.mono (fun _ _ h => h.elim)).trans hs (fun k e => .inl ((HS.out k).2 (.inl e)))
end Go.Proofs.Ytokcpmeoiblpfaa
