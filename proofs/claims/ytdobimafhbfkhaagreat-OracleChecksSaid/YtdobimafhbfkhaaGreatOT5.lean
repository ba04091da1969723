/- Spans (api.Span): their cells; what lies within. -/
import Derived.Test.YtdobimafhbfkhaaGreatOT4
set_option maxHeartbeats 64000000
namespace Go.Proofs.YtdobimafhbfkhaaGreat
open Go.ChangeShapes Go.WideShapes Go.ChangeAt Go.RowKit
set_option maxRecDepth 100000
set_option linter.unusedSimpArgs false
structure Spn where
 no:Bool
 hasLo:Bool
 openLo:Bool
 lo:Val
 hasHi:Bool
 openHi:Bool
 hi:Val
def Spn.cells (s:Spn):Array Value:=#[.bool s.no,.bool s.hasLo,.bool s.openLo,.bool s.lo.t,.int .i64 s.lo.n,.string s.lo.s,.bool s.hasHi,.bool s.openHi,.bool s.hi.t,.int .i64 s.hi.n,.string s.hi.s]
abbrev Spn.v (s:Spn):Value:=.agg #[.bool s.no,.bool s.hasLo,.bool s.openLo,.bool s.lo.t,.int .i64 s.lo.n,.string s.lo.s,.bool s.hasHi,.bool s.openHi,.bool s.hi.t,.int .i64 s.hi.n,.string s.hi.s]
abbrev tS : TypeId:=92
def gD (s:Spn)(v:Val):Bool:=s.hasLo&&(decide (ak v s.lo<0)||decide (ak v s.lo=0)&&s.openLo)
def pI (s:Spn)(v:Val):Bool:=!s.hasHi||decide (ak v s.hi<0)||decide (ak v s.hi=0) && !s.openHi
def bL (s:Spn)(v:Val):Bool:=!s.no && !gD s v&&pI s v
theorem Spn.at {w:World}{b:Nat}{s:Spn}{t:TypeId}{fr:Nat×Nat}(h:w.heap[b]?=some (.cells s.cells t fr)) :
  w.cell? ⟨b,0,none⟩=some (.bool s.no)∧w.cell? ⟨b,1,none⟩=some (.bool s.hasLo)∧w.cell? ⟨b,2,none⟩=some (.bool s.openLo)∧w.cell? ⟨b,3,none⟩=some (.bool s.lo.t)∧w.cell? ⟨b,4,none⟩=some (.int .i64 s.lo.n)∧w.cell? ⟨b,5,none⟩=some (.string s.lo.s) ∧
  w.cell? ⟨b,6,none⟩=some (.bool s.hasHi)∧w.cell? ⟨b,7,none⟩=some (.bool s.openHi)∧w.cell? ⟨b,8,none⟩=some (.bool s.hi.t)∧w.cell? ⟨b,9,none⟩=some (.int .i64 s.hi.n)∧w.cell? ⟨b,10,none⟩=some (.string s.hi.s):=by
 refine⟨?_,?_,?_,?_,?_,?_,?_,?_,?_,?_,?_⟩<;>simp [World.cell?,h,Spn.cells]
theorem rk (s:Spn)(x:Val):gD s x=(s.hasLo&&(decide (ak x s.lo<0)||decide (ak x s.lo=0)&&s.openLo)):=rfl
theorem jd (s:Spn)(x:Val):pI s x=(!s.hasHi||decide (ak x s.hi<0)||decide (ak x s.hi=0) && !s.openHi):=rfl
theorem gU (a b:Val):ak a b = -1∨ak a b=0∨ak a b=1:=by
 unfold ak gh jO
 repeat' split
 all_goals simp
theorem lQ (s:Spn)(x:Val)(w:World):Calls Tryz.prog 101 #[s.v,x.v] w fun e w'=>e = .returned (.bool (bL s x))∧Kept (fun _=>False) w w':=by
 have hk0:Kept (fun _=>False) w ((w.alloc (.cells s.cells tS)).alloc (.cells #[.bool x.t,.int .i64 x.n,.string x.s] 24)):=((Kept.refl _ _).alloc _).alloc _
 have hb1:((w.alloc (.cells s.cells tS)).alloc (.cells #[.bool x.t,.int .i64 x.n,.string x.s] 24)).heap[w.heap.size]?=some (.cells s.cells tS (0,0)):=(((Kept.refl (fun _=>False) (w.alloc (.cells s.cells tS))).alloc _).block _ (by simp) (fun h=>h)).trans (aw w _)
 have hb2:((w.alloc (.cells s.cells tS)).alloc (.cells #[.bool x.t,.int .i64 x.n,.string x.s] 24)).heap[w.heap.size+1]?=some (.cells #[.bool x.t,.int .i64 x.n,.string x.s] 24 (0,0)):=by
  have:=aw (w.alloc (.cells s.cells tS)) (.cells #[.bool x.t,.int .i64 x.n,.string x.s] 24)
  rw [World.size_alloc]at this
  exact this
 have uB:=CM hk0
 have um:=CM hb1
 have un:=CM hb2
 clear hk0 hb1 hb2
 dsimp only [Spn.v,Val.v]
 go_enter Tryz.func101,Tryz.ntmps101
 go_upto_region 1 with (fail)
 obtain⟨W,hW⟩:∃W,W=(w.alloc (.cells s.cells tS)).alloc (.cells #[.bool x.t,.int .i64 x.n,.string x.s] 24):=⟨_,rfl⟩
 dsimp only [Spn.cells]at hW
 rw [←hW]
 dsimp only [Spn.cells]at uB um un
 rw [←hW]at uB um un
 generalize w.heap.size+1=bx at un ⊢
 generalize w.heap.size=bs at um ⊢
 clear hW
 obtain⟨s0,s1,s2,s3,s4,s5,s6,s7,s8,s9,s10⟩:=Spn.at (s:=s) um.out
 obtain⟨x0,x1,x2,xf⟩:=aT un.out
 cases hn:s.no
 ·rw [hn]at s0
  have HN:=CM hn
  clear hn
  go_upto_region 4 with ((go_at_call 103;refine(bQ x s.lo _).mono ?_;rintro e1 w1 ⟨rfl,hk1⟩;have uq:=CM (uB.out.trans hk1 (fun _ h=>h.elim));have wR:=CM ((hk1.block bs (ax um.out) (fun h=>h)).trans um.out);have AY:=CM ((hk1.block bx (ax un.out) (fun h=>h)).trans un.out);clear hk1 s0 s1 s2 s3 s4 s5 s6 s7 s8 s9 s10 x0 x1 x2 xf))
  obtain⟨s0,s1,s2,s3,s4,s5,s6,s7,s8,s9,s10⟩:=Spn.at (s:=s) wR.out
  obtain⟨x0,x1,x2,xf⟩:=aT AY.out
  have hc3:=gU x s.lo
  have xB:=CM (rk s x)
  generalize ak x s.lo=c at xB hc3 ⊢
  cases hl:s.hasLo
  ·rw [hl]at s1
   have uK:gD s x=false:=by rw [xB.out];simp [*]
   have uK:=CM uK
   go_upto_region 7 with ((go_at_call 103;refine(bQ x s.hi _).mono ?_;rintro e2 w2 ⟨rfl,hk2⟩;have ux:=CM (uq.out.trans hk2 (fun _ h=>h.elim));have xJ:=CM ((hk2.block bs (ax wR.out) (fun h=>h)).trans wR.out);clear hk2 s0 s1 s2 s3 s4 s5 s6 s7 s8 s9 s10 x0 x1 x2 xf))
   obtain⟨s0,s1,s2,s3,s4,s5,s6,s7,s8,s9,s10⟩:=Spn.at (s:=s) xJ.out
   have hd3:=gU x s.hi
   have v6:=CM (jd s x)
   generalize ak x s.hi=d at v6 hd3 ⊢
   cases hh:s.hasHi
   ·rw [hh]at s6
    go_wp2_with (fail)
    go_ret
    exact⟨by unfold bL;rw [HN.out,uK.out,v6.out];simp [*],ux.out⟩
   ·rw [hh]at s6
    rcases hd3 with rfl|rfl|rfl
    ·skip
     go_wp2_with (fail)
     go_ret
     exact⟨by unfold bL;rw [HN.out,uK.out,v6.out];simp [*],ux.out⟩
    ·cases ho:s.openHi
     ·rw [ho]at s7
      go_wp2_with (fail)
      go_ret
      exact⟨by unfold bL;rw [HN.out,uK.out,v6.out];simp [*],ux.out⟩
     ·rw [ho]at s7
      go_wp2_with (fail)
      go_ret
      exact⟨by unfold bL;rw [HN.out,uK.out,v6.out];simp [*],ux.out⟩
    ·skip
     go_wp2_with (fail)
     go_ret
     exact⟨by unfold bL;rw [HN.out,uK.out,v6.out];simp [*],ux.out⟩
  ·rw [hl]at s1
   rcases hc3 with rfl|rfl|rfl
   ·skip
    have uK:gD s x=true:=by rw [xB.out];simp [*]
    have uK:=CM uK
    go_wp2_with (fail)
    go_ret
    exact⟨by unfold bL;rw [HN.out,uK.out];simp,uq.out⟩
   ·cases ho:s.openLo
    ·rw [ho]at s2
     have uK:gD s x=false:=by rw [xB.out];simp [*]
     have uK:=CM uK
     go_upto_region 7 with ((go_at_call 103;refine(bQ x s.hi _).mono ?_;rintro e2 w2 ⟨rfl,hk2⟩;have ux:=CM (uq.out.trans hk2 (fun _ h=>h.elim));have xJ:=CM ((hk2.block bs (ax wR.out) (fun h=>h)).trans wR.out);clear hk2 s0 s1 s2 s3 s4 s5 s6 s7 s8 s9 s10 x0 x1 x2 xf))
     obtain⟨s0,s1,s2,s3,s4,s5,s6,s7,s8,s9,s10⟩:=Spn.at (s:=s) xJ.out
     have hd3:=gU x s.hi
     have v6:=CM (jd s x)
     generalize ak x s.hi=d at v6 hd3 ⊢
     cases hh:s.hasHi
     ·rw [hh]at s6
      go_wp2_with (fail)
      go_ret
      exact⟨by unfold bL;rw [HN.out,uK.out,v6.out];simp [*],ux.out⟩
     ·rw [hh]at s6
      rcases hd3 with rfl|rfl|rfl
      ·skip
       go_wp2_with (fail)
       go_ret
       exact⟨by unfold bL;rw [HN.out,uK.out,v6.out];simp [*],ux.out⟩
      ·cases ho:s.openHi
       ·rw [ho]at s7
        go_wp2_with (fail)
        go_ret
        exact⟨by unfold bL;rw [HN.out,uK.out,v6.out];simp [*],ux.out⟩
       ·rw [ho]at s7
        go_wp2_with (fail)
        go_ret
        exact⟨by unfold bL;rw [HN.out,uK.out,v6.out];simp [*],ux.out⟩
      ·skip
       go_wp2_with (fail)
       go_ret
       exact⟨by unfold bL;rw [HN.out,uK.out,v6.out];simp [*],ux.out⟩
    ·rw [ho]at s2
     have uK:gD s x=true:=by rw [xB.out];simp [*]
     have uK:=CM uK
     go_wp2_with (fail)
     go_ret
     exact⟨by unfold bL;rw [HN.out,uK.out];simp,uq.out⟩
   ·skip
    have uK:gD s x=false:=by rw [xB.out];simp [*]
    have uK:=CM uK
    go_upto_region 7 with ((go_at_call 103;refine(bQ x s.hi _).mono ?_;rintro e2 w2 ⟨rfl,hk2⟩;have ux:=CM (uq.out.trans hk2 (fun _ h=>h.elim));have xJ:=CM ((hk2.block bs (ax wR.out) (fun h=>h)).trans wR.out);clear hk2 s0 s1 s2 s3 s4 s5 s6 s7 s8 s9 s10 x0 x1 x2 xf))
    obtain⟨s0,s1,s2,s3,s4,s5,s6,s7,s8,s9,s10⟩:=Spn.at (s:=s) xJ.out
    have hd3:=gU x s.hi
    have v6:=CM (jd s x)
    generalize ak x s.hi=d at v6 hd3 ⊢
    cases hh:s.hasHi
    ·rw [hh]at s6
     go_wp2_with (fail)
     go_ret
     exact⟨by unfold bL;rw [HN.out,uK.out,v6.out];simp [*],ux.out⟩
    ·rw [hh]at s6
     rcases hd3 with rfl|rfl|rfl
     ·skip
      go_wp2_with (fail)
      go_ret
      exact⟨by unfold bL;rw [HN.out,uK.out,v6.out];simp [*],ux.out⟩
     ·cases ho:s.openHi
      ·rw [ho]at s7
       go_wp2_with (fail)
       go_ret
       exact⟨by unfold bL;rw [HN.out,uK.out,v6.out];simp [*],ux.out⟩
      ·rw [ho]at s7
       go_wp2_with (fail)
       go_ret
       exact⟨by unfold bL;rw [HN.out,uK.out,v6.out];simp [*],ux.out⟩
     ·skip
      go_wp2_with (fail)
      go_ret
      exact⟨by unfold bL;rw [HN.out,uK.out,v6.out];simp [*],ux.out⟩
 ·rw [hn]at s0
  have yr:=CM (show bL s x=false by unfold bL;rw [hn];rfl)
  go_wp2_with (fail)
  go_ret
  exact⟨by rw [yr.out];rfl,uB.out⟩
end Go.Proofs.YtdobimafhbfkhaaGreat
