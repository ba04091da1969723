/- Spans (api.Span): their cells; what lies within. -/
import Derived.Test.YtdobimafhbfkhaaGreatOB4
set_option maxHeartbeats 64000000
namespace Go.Proofs.YtdobimafhbfkhaaGreat
open Go.ChangeShapes Go.WideShapes Go.ChangeAt Go.RowKit
set_option maxRecDepth 100000
set_option linter.unusedSimpArgs false
structure Spn where
 no:Bool
 hasLo:Bool
 openLo:Bool
 lo:Val
 hasHi:Bool
 openHi:Bool
 hi:Val
def Spn.cells (s:Spn):Array Value:=#[.bool s.no,.bool s.hasLo,.bool s.openLo,.bool s.lo.t,.int .i64 s.lo.n,.string s.lo.s,.bool s.hasHi,.bool s.openHi,.bool s.hi.t,.int .i64 s.hi.n,.string s.hi.s]
abbrev Spn.v (s:Spn):Value:=.agg #[.bool s.no,.bool s.hasLo,.bool s.openLo,.bool s.lo.t,.int .i64 s.lo.n,.string s.lo.s,.bool s.hasHi,.bool s.openHi,.bool s.hi.t,.int .i64 s.hi.n,.string s.hi.s]
abbrev tS : TypeId:=92
def gz (s:Spn)(v:Val):Bool:=s.hasLo&&(decide (aj v s.lo<0)||decide (aj v s.lo=0)&&s.openLo)
def pI (s:Spn)(v:Val):Bool:=!s.hasHi||decide (aj v s.hi<0)||decide (aj v s.hi=0) && !s.openHi
def bG (s:Spn)(v:Val):Bool:=!s.no && !gz s v&&pI s v
theorem Spn.at {w:World}{b:Nat}{s:Spn}{t:TypeId}{fr:Nat×Nat}(h:w.heap[b]?=some (.cells s.cells t fr)) :
  w.cell? ⟨b,0,none⟩=some (.bool s.no)∧w.cell? ⟨b,1,none⟩=some (.bool s.hasLo)∧w.cell? ⟨b,2,none⟩=some (.bool s.openLo)∧w.cell? ⟨b,3,none⟩=some (.bool s.lo.t)∧w.cell? ⟨b,4,none⟩=some (.int .i64 s.lo.n)∧w.cell? ⟨b,5,none⟩=some (.string s.lo.s) ∧
  w.cell? ⟨b,6,none⟩=some (.bool s.hasHi)∧w.cell? ⟨b,7,none⟩=some (.bool s.openHi)∧w.cell? ⟨b,8,none⟩=some (.bool s.hi.t)∧w.cell? ⟨b,9,none⟩=some (.int .i64 s.hi.n)∧w.cell? ⟨b,10,none⟩=some (.string s.hi.s):=by
 refine⟨?_,?_,?_,?_,?_,?_,?_,?_,?_,?_,?_⟩<;>simp [World.cell?,h,Spn.cells]
theorem qU (s:Spn)(x:Val):gz s x=(s.hasLo&&(decide (aj x s.lo<0)||decide (aj x s.lo=0)&&s.openLo)):=rfl
theorem i6 (s:Spn)(x:Val):pI s x=(!s.hasHi||decide (aj x s.hi<0)||decide (aj x s.hi=0) && !s.openHi):=rfl
theorem gP (a b:Val):aj a b = -1∨aj a b=0∨aj a b=1:=by
 unfold aj gh jI
 repeat' split
 all_goals simp
theorem lF (s:Spn)(x:Val)(w:World):Calls Tryz.prog 101 #[s.v,x.v] w fun e w'=>e = .returned (.bool (bG s x))∧Kept (fun _=>False) w w':=by
 have hk0:Kept (fun _=>False) w ((w.alloc (.cells s.cells tS)).alloc (.cells #[.bool x.t,.int .i64 x.n,.string x.s] 24)):=((Kept.refl _ _).alloc _).alloc _
 have hb1:((w.alloc (.cells s.cells tS)).alloc (.cells #[.bool x.t,.int .i64 x.n,.string x.s] 24)).heap[w.heap.size]?=some (.cells s.cells tS (0,0)):=(((Kept.refl (fun _=>False) (w.alloc (.cells s.cells tS))).alloc _).block _ (by simp) (fun h=>h)).trans (au w _)
 have hb2:((w.alloc (.cells s.cells tS)).alloc (.cells #[.bool x.t,.int .i64 x.n,.string x.s] 24)).heap[w.heap.size+1]?=some (.cells #[.bool x.t,.int .i64 x.n,.string x.s] 24 (0,0)):=by
  have:=au (w.alloc (.cells s.cells tS)) (.cells #[.bool x.t,.int .i64 x.n,.string x.s] 24)
  rw [World.size_alloc]at this
  exact this
 have tR:=B5 hk0
 have tF:=B5 hb1
 have tG:=B5 hb2
 clear hk0 hb1 hb2
 dsimp only [Spn.v,Val.v]
 go_enter Tryz.func101,Tryz.ntmps101
 go_upto_region 1 with (fail)
 obtain⟨W,hW⟩:∃W,W=(w.alloc (.cells s.cells tS)).alloc (.cells #[.bool x.t,.int .i64 x.n,.string x.s] 24):=⟨_,rfl⟩
 dsimp only [Spn.cells]at hW
 rw [←hW]
 dsimp only [Spn.cells]at tR tF tG
 rw [←hW]at tR tF tG
 generalize w.heap.size+1=bx at tG ⊢
 generalize w.heap.size=bs at tF ⊢
 clear hW
 obtain⟨s0,s1,s2,s3,s4,s5,s6,s7,s8,s9,s10⟩:=Spn.at (s:=s) tF.out
 obtain⟨x0,x1,x2,xf⟩:=aT tG.out
 cases hn:s.no
 ·rw [hn]at s0
  have HN:=B5 hn
  clear hn
  go_upto_region 4 with ((go_at_call 103;refine(bO x s.lo _).mono ?_;rintro e1 w1 ⟨rfl,hk1⟩;have tK:=B5 (tR.out.trans hk1 (fun _ h=>h.elim));have vT:=B5 ((hk1.block bs (ax tF.out) (fun h=>h)).trans tF.out);have Ak:=B5 ((hk1.block bx (ax tG.out) (fun h=>h)).trans tG.out);clear hk1 s0 s1 s2 s3 s4 s5 s6 s7 s8 s9 s10 x0 x1 x2 xf))
  obtain⟨s0,s1,s2,s3,s4,s5,s6,s7,s8,s9,s10⟩:=Spn.at (s:=s) vT.out
  obtain⟨x0,x1,x2,xf⟩:=aT Ak.out
  have hc3:=gP x s.lo
  have wL:=B5 (qU s x)
  generalize aj x s.lo=c at wL hc3 ⊢
  cases hl:s.hasLo
  ·rw [hl]at s1
   have uj:gz s x=false:=by rw [wL.out];simp [*]
   have uj:=B5 uj
   go_upto_region 7 with ((go_at_call 103;refine(bO x s.hi _).mono ?_;rintro e2 w2 ⟨rfl,hk2⟩;have tX:=B5 (tK.out.trans hk2 (fun _ h=>h.elim));have wQ:=B5 ((hk2.block bs (ax vT.out) (fun h=>h)).trans vT.out);clear hk2 s0 s1 s2 s3 s4 s5 s6 s7 s8 s9 s10 x0 x1 x2 xf))
   obtain⟨s0,s1,s2,s3,s4,s5,s6,s7,s8,s9,s10⟩:=Spn.at (s:=s) wQ.out
   have hd3:=gP x s.hi
   have vj:=B5 (i6 s x)
   generalize aj x s.hi=d at vj hd3 ⊢
   cases hh:s.hasHi
   ·rw [hh]at s6
    go_wp2_with (fail)
    go_ret
    exact⟨by unfold bG;rw [HN.out,uj.out,vj.out];simp [*],tX.out⟩
   ·rw [hh]at s6
    rcases hd3 with rfl|rfl|rfl
    ·skip
     go_wp2_with (fail)
     go_ret
     exact⟨by unfold bG;rw [HN.out,uj.out,vj.out];simp [*],tX.out⟩
    ·cases ho:s.openHi
     ·rw [ho]at s7
      go_wp2_with (fail)
      go_ret
      exact⟨by unfold bG;rw [HN.out,uj.out,vj.out];simp [*],tX.out⟩
     ·rw [ho]at s7
      go_wp2_with (fail)
      go_ret
      exact⟨by unfold bG;rw [HN.out,uj.out,vj.out];simp [*],tX.out⟩
    ·skip
     go_wp2_with (fail)
     go_ret
     exact⟨by unfold bG;rw [HN.out,uj.out,vj.out];simp [*],tX.out⟩
  ·rw [hl]at s1
   rcases hc3 with rfl|rfl|rfl
   ·skip
    have uj:gz s x=true:=by rw [wL.out];simp [*]
    have uj:=B5 uj
    go_wp2_with (fail)
    go_ret
    exact⟨by unfold bG;rw [HN.out,uj.out];simp,tK.out⟩
   ·cases ho:s.openLo
    ·rw [ho]at s2
     have uj:gz s x=false:=by rw [wL.out];simp [*]
     have uj:=B5 uj
     go_upto_region 7 with ((go_at_call 103;refine(bO x s.hi _).mono ?_;rintro e2 w2 ⟨rfl,hk2⟩;have tX:=B5 (tK.out.trans hk2 (fun _ h=>h.elim));have wQ:=B5 ((hk2.block bs (ax vT.out) (fun h=>h)).trans vT.out);clear hk2 s0 s1 s2 s3 s4 s5 s6 s7 s8 s9 s10 x0 x1 x2 xf))
     obtain⟨s0,s1,s2,s3,s4,s5,s6,s7,s8,s9,s10⟩:=Spn.at (s:=s) wQ.out
     have hd3:=gP x s.hi
     have vj:=B5 (i6 s x)
     generalize aj x s.hi=d at vj hd3 ⊢
     cases hh:s.hasHi
     ·rw [hh]at s6
      go_wp2_with (fail)
      go_ret
      exact⟨by unfold bG;rw [HN.out,uj.out,vj.out];simp [*],tX.out⟩
     ·rw [hh]at s6
      rcases hd3 with rfl|rfl|rfl
      ·skip
       go_wp2_with (fail)
       go_ret
       exact⟨by unfold bG;rw [HN.out,uj.out,vj.out];simp [*],tX.out⟩
      ·cases ho:s.openHi
       ·rw [ho]at s7
        go_wp2_with (fail)
        go_ret
        exact⟨by unfold bG;rw [HN.out,uj.out,vj.out];simp [*],tX.out⟩
       ·rw [ho]at s7
        go_wp2_with (fail)
        go_ret
        exact⟨by unfold bG;rw [HN.out,uj.out,vj.out];simp [*],tX.out⟩
      ·skip
       go_wp2_with (fail)
       go_ret
       exact⟨by unfold bG;rw [HN.out,uj.out,vj.out];simp [*],tX.out⟩
    ·rw [ho]at s2
     have uj:gz s x=true:=by rw [wL.out];simp [*]
     have uj:=B5 uj
     go_wp2_with (fail)
     go_ret
     exact⟨by unfold bG;rw [HN.out,uj.out];simp,tK.out⟩
   ·skip
    have uj:gz s x=false:=by rw [wL.out];simp [*]
    have uj:=B5 uj
    go_upto_region 7 with ((go_at_call 103;refine(bO x s.hi _).mono ?_;rintro e2 w2 ⟨rfl,hk2⟩;have tX:=B5 (tK.out.trans hk2 (fun _ h=>h.elim));have wQ:=B5 ((hk2.block bs (ax vT.out) (fun h=>h)).trans vT.out);clear hk2 s0 s1 s2 s3 s4 s5 s6 s7 s8 s9 s10 x0 x1 x2 xf))
    obtain⟨s0,s1,s2,s3,s4,s5,s6,s7,s8,s9,s10⟩:=Spn.at (s:=s) wQ.out
    have hd3:=gP x s.hi
    have vj:=B5 (i6 s x)
    generalize aj x s.hi=d at vj hd3 ⊢
    cases hh:s.hasHi
    ·rw [hh]at s6
     go_wp2_with (fail)
     go_ret
     exact⟨by unfold bG;rw [HN.out,uj.out,vj.out];simp [*],tX.out⟩
    ·rw [hh]at s6
     rcases hd3 with rfl|rfl|rfl
     ·skip
      go_wp2_with (fail)
      go_ret
      exact⟨by unfold bG;rw [HN.out,uj.out,vj.out];simp [*],tX.out⟩
     ·cases ho:s.openHi
      ·rw [ho]at s7
       go_wp2_with (fail)
       go_ret
       exact⟨by unfold bG;rw [HN.out,uj.out,vj.out];simp [*],tX.out⟩
      ·rw [ho]at s7
       go_wp2_with (fail)
       go_ret
       exact⟨by unfold bG;rw [HN.out,uj.out,vj.out];simp [*],tX.out⟩
     ·skip
      go_wp2_with (fail)
      go_ret
      exact⟨by unfold bG;rw [HN.out,uj.out,vj.out];simp [*],tX.out⟩
 ·rw [hn]at s0
  have xz:=B5 (show bG s x=false by unfold bG;rw [hn];rfl)
  go_wp2_with (fail)
  go_ret
  exact⟨by rw [xz.out];rfl,tR.out⟩
end Go.Proofs.YtdobimafhbfkhaaGreat
