/- Whether sets may be a table's (row.CheckSets). (printed by genok3.py) -/
import Derived.Test.YtdobimafhbfkhaaGreatOT11
set_option maxHeartbeats 64000000
namespace Go.Proofs.YtdobimafhbfkhaaGreat
open Go.ChangeShapes Go.WideShapes Go.ChangeAt Go.RowKit
set_option maxRecDepth 100000
set_option linter.unusedSimpArgs false
abbrev tMet : TypeId:=115
abbrev sE (w:World)(v:Value)(l:List SetM):Prop:=Rd w 7 v l.length (l.flatMap SetM.cells)
abbrev SetsAt (D:PH)(v:Value)(l:List SetM):Prop:=RdP D 7 v l.length (l.flatMap SetM.cells)
def fm (l:List SetM)(i:Nat):Bool:=decide ((i:Int)∈l.map SetM.col)
def fA (l:List SetM):Array Value:=#[.bool (fm l 0),.bool (fm l 1),.bool (fm l 2),.bool (fm l 3)]
theorem lN {c:List Bool}{s:SetM}(hm:cu c=true)(h:aP c s=true):s.col=1∨s.col=2∨s.col=3:=by
 have h4:c.length≤4:=by unfold cu at hm;simp at hm;exact hm.2
 unfold aP at h
 split at h
 ·cases h
 ·next hn =>
  have h1:¬s.col<1:=fun e=>hn (.inl e)
  have h2:¬aB c s.col=0:=fun e=>hn (.inr e)
  have h3:¬(s.col<0∨(c.length:Int)≤s.col):=fun e=>h2 (by unfold aB;rw [if_pos e])
  omega
theorem jg (l:List SetM)(s:SetM)(i:Nat):fm (l ++ [s]) i=(fm l i||decide ((i:Int)=s.col)):=by
 unfold fm
 rw [List.map_append,Bool.eq_iff_iff]
 simp
theorem rQ (l:List SetM)(s:SetM):lM (l ++ [s])=(lM l && !decide (s.col∈l.map SetM.col)):=by
 unfold lM
 rw [List.map_append,Bool.eq_iff_iff]
 simp only [decide_eq_true_eq,Bool.and_eq_true,Bool.not_eq_true',decide_eq_false_iff_not,List.nodup_append,List.map_cons,List.map_nil]
 constructor
 ·rintro⟨h1,_,h2⟩
  exact⟨h1,fun hm=>h2 _ hm _ (List.mem_cons_self ..) rfl⟩
 ·rintro⟨h1,h2⟩
  exact⟨h1,by simp,fun a ha b hb e=>by simp at hb;subst hb;subst e;exact h2 ha⟩
def d3 (c:List Bool)(l:List SetM):Bool:=l.all (aP c)&&lM l
theorem dh (c:List Bool)(l:List SetM)(s:SetM):d3 c (l ++ [s])=(d3 c l&&(aP c s && !decide (s.col∈l.map SetM.col))):=by
 unfold d3
 rw [List.all_append,rQ]
 simp only [List.all_cons,List.all_nil,Bool.and_true]
 cases l.all (aP c)<;>cases lM l<;>cases aP c s<;>simp
theorem iX (c:List Bool):∀(m l:List SetM),d3 c l=false→d3 c (l++m)=false
 | [],l,h=>by simpa using h
 | s::m,l,h=>by
  have:l++s::m=(l ++ [s])++m:=by simp
  rw [this]
  exact iX c m _ (by rw [dh,h];rfl)
theorem it {c:List Bool}{l:List SetM}(n:Nat)(h:d3 c (l.take n)=false):d3 c l=false:=by
 have:=iX c (l.drop n) _ h
 rwa [List.take_append_drop]at this
theorem kY {c:List Bool}{l:List SetM}(h1:cu c=true)(h2:l.length≤3):cT c l=d3 c l:=by
 unfold cT d3
 rw [h1,decide_eq_true h2]
 simp
theorem qi {l:List SetM}{s:SetM}(h:s.col=1):fA (l ++ [s])=(fA l).setIfInBounds 1 (.bool true):=by unfold fA;simp [jg,h]
theorem pR {l:List SetM}{s:SetM}(h:s.col=2):fA (l ++ [s])=(fA l).setIfInBounds 2 (.bool true):=by unfold fA;simp [jg,h]
theorem pr {l:List SetM}{s:SetM}(h:s.col=3):fA (l ++ [s])=(fA l).setIfInBounds 3 (.bool true):=by unfold fA;simp [jg,h]
theorem fe {w:World}{b:Nat}{l:List SetM}{t:TypeId}(h:w.heap[b]?=some (.cells (fA l) t (0,0))) :
  w.cell? ⟨b,0,none⟩=some (.bool (fm l 0))∧w.cell? ⟨b,1,none⟩=some (.bool (fm l 1))∧w.cell? ⟨b,2,none⟩=some (.bool (fm l 2))∧w.cell? ⟨b,3,none⟩=some (.bool (fm l 3))∧(∀j,w.frozen? ⟨b,j,none⟩=false):=fI h
def d5 (c:List Bool)(l:List SetM):Int:=if cu c then (if cT c l then 0 else 20)else 1
theorem re {c:List Bool}{l:List SetM}(h1:cu c=true)(h2:¬l.length≤3):d5 c l=20:=by
 unfold d5 cT
 rw [h1,decide_eq_false h2]
 simp
theorem eW {c:List Bool}{l:List SetM}(h1:cu c=true)(h2:l.length≤3)(n:Nat)(h:d3 c (l.take n)=false):d5 c l=20:=by
 unfold d5
 rw [kY h1 h2,it n h,h1]
 simp
theorem o9 {c:List Bool}{l:List SetM}(h1:cu c=true)(h2:l.length≤3)(h:d3 c l=true):d5 c l=0:=by
 unfold d5
 rw [kY h1 h2,h,h1]
 simp
theorem fK {w:World}{cv sv:Value}{c:List Bool}{sets:List SetM}(hc:bu w cv c)(hr:sE w sv sets) :
  Calls Tryz.prog 34 #[.agg #[cv],sv] w fun e w'=>e = .returned (.int .i64 (d5 c sets))∧Kept (fun _=>False) w w':=by
 have hk1:Kept (fun _=>False) w (w.alloc (.cells #[cv] aX)):=(Kept.refl _ _).alloc _
 have hb1:(w.alloc (.cells #[cv] aX)).heap[w.heap.size]?=some (.cells #[cv] aX (0,0)):=aw w _
 have HC:=CM (Rd.kept hc hk1 (fun _ _ h=>h))
 have HR:=CM (Rd.kept hr hk1 (fun _ _ h=>h))
 have uq:=CM hk1
 have um:=CM hb1
 have yi:=CM hc
 have yW:=CM (show Rd w 7 sv sets.length (sets.flatMap SetM.cells)from hr)
 obtain⟨-,m2,ro,rcap,rfl,-⟩:=hr
 clear hk1 hb1 hc
 go_enter Tryz.func34,Tryz.ntmps34
 go_upto_region 1 with (fail)
 obtain⟨W,hW⟩:∃W,W=w.alloc (.cells #[cv] aX):=⟨_,rfl⟩
 rw [←hW]at HC HR uq um ⊢
 generalize w.heap.size=bt at um ⊢
 clear hW
 obtain⟨b0,bf⟩:=aq um.out
 have wQ:=CM (fp HC.out)
 cases hm:cu c
 ·have HM:=CM (show chk c=1 by simp [chk,hm])
  have HF:=CM (show d5 c sets=1 by simp [d5,hm])
  clear hm
  go_wp2_with ((go_at_call 31;refine wQ.out.mono ?_;rw [HM.out];rintro e1 w1 ⟨rfl,hk2⟩;have ux:=CM hk2;clear hk2 b0 bf))
  go_ret
  rw [HF.out]
  exact⟨rfl,uq.out.trans ux.out (fun _ h=>h.elim)⟩
 have HM:=CM (show chk c=0 by simp [chk,hm])
 have yX:=CM hm
 obtain⟨N,hN⟩:∃N,sets.length=N:=⟨_,rfl⟩
 unfold maxLen at m2
 rw [hN]at HR yW m2 ⊢
 have HN:=CM hN
 by_cases hl:N≤3
 ·have HL:=CM (show sets.length≤3 by omega)
  have hl2:¬((N:Int) > 3):=by omega
  clear hm hN
  go_upto_region 4 with ((go_at_call 31;refine wQ.out.mono ?_;rw [HM.out];rintro e1 w1 ⟨rfl,hk2⟩;have ux:=CM hk2;clear hk2 b0 bf))
  obtain⟨W2,hW2,hk3,hb2⟩:∃W,W=w1.alloc (.cells (fA []) tMet)∧Kept (fun _=>False) w1 W∧W.heap[w1.heap.size]?=some (.cells (fA []) tMet (0,0)):=⟨_,rfl,(Kept.refl _ _).alloc _,aw _ _⟩
  have yj:=CM (show w1.alloc (.cells #[.bool false,.bool false,.bool false,.bool false] tMet)=W2 from hW2.symm)
  have wS:=CM (show w.heap.size≤w1.heap.size from Nat.le_trans uq.out.size ux.out.size)
  have vI:=CM ((uq.out.trans ux.out (fun _ h=>h.elim)).trans hk3 (fun _ h=>h.elim))
  have hkw:=ux.out.trans hk3 (fun _ h=>h.elim)
  have BN:=CM (aj hkw um.out)
  have A1:=CM hb2
  have wl:=CM (show bt≠w1.heap.size from Nat.ne_of_lt (Nat.lt_of_lt_of_le (ax um.out) ux.out.size))
  clear hW2 hk3 hb2 hkw HC HR uq ux wQ HM um
  go_upto_region 7 with fail
  rw [yj.out]
  clear yj
  generalize hbm:w1.heap.size=bm at A1 wl wS ⊢
  clear hbm
  go_wp2_with fail
  go_loopw [19] (fun idx wr=>∃j:Nat,idx = .int .i64 j∧j≤N∧d3 c (sets.take j)=true∧Kept (fun k=>k=bm) W2 wr∧wr.heap[bm]?=some (.cells (fA (sets.take j)) tMet (0,0))) (fun idx _=>N-(intOf idx).toNat)
  case atStart=>exact⟨0,rfl,Nat.zero_le _,rfl,Kept.refl _ _,A1.out⟩
  case round =>
   obtain⟨j,rfl,hj,hno,hkr,hbr⟩:=hrel
   have xE:=CM hkr
   have vh:=CM (vI.out.trans hkr (fun k h=>.inr (h▸wS.out)))
   have wb:=CM hno
   have A3:=CM hbr
   clear hkr hno hbr A1
   by_cases hlt:j<N
   ·obtain⟨x,hx⟩:∃x,sets[j]?=some x:=⟨sets[j]'(by rw [HN.out];exact hlt),List.getElem?_eq_getElem _⟩
    have HX:=CM (show sets.take (j+1)=sets.take j ++ [x] by rw [List.take_add_one,hx];rfl)
    obtain⟨g1,o1,rfl,hr1⟩:=bK SetM.len (Rd.kept yW.out vh.out (fun _ _ h=>h)) hx HN.out
    have xK:=CM (nm hr1)
    obtain⟨W3,hW3,hk3,hb3⟩:∃W,W=wr.alloc (.cells x.cells.toArray cI)∧Kept (fun _=>False) wr W∧W.heap[wr.heap.size]?=some (.cells x.cells.toArray cI (0,0)):=⟨_,rfl,(Kept.refl _ _).alloc _,aw _ _⟩
    have zP:=CM hW3
    have HB3:=CM hb3
    have wg:=CM (aj hk3 A3.out)
    have HK4:=CM (xE.out.trans hk3 (fun _ h=>h.elim))
    have xL:=CM (vh.out.trans hk3 (fun _ h=>h.elim))
    have A4:=CM ((HK4.out.block _ (ax BN.out) wl.out).trans BN.out)
    have zQ:=CM (show bm≠wr.heap.size from Nat.ne_of_lt (ax A3.out))
    have hib:(j:Int)<(N:Int):=by omega
    have HI:=CM hib
    clear hx hr1 hW3 hk3 hb3 A3 xE
    go_upto_region 10 with (first|(refine bG rfl _ _ rfl _ _ rfl _ xK.out ?_)|(refine cZ rfl _ _ _ rfl x.cells _ _ rfl rfl (by kernel_rfl) rfl (SetM.one x) ?_))
    rw [←zP.out]
    clear zP xK
    generalize wr.heap.size=bs at HB3 zQ ⊢
    have vV:=CM (rP (Rd.kept yi.out xL.out (fun _ _ h=>h)) x)
    obtain⟨b0,bf⟩:=aq A4.out
    obtain⟨x0,x1,x2,x3,x4,x5,x6⟩:=aC HB3.out
    cases hy:aP c x
    ·rw [hy]at vV
     have HF:=CM (eW yX.out HL.out (j+1) (by rw [HX.out,dh,hy];simp))
     clear hy
     go_wp2_with (go_at_call 48;refine vV.out.mono ?_;rintro e4 w4 ⟨rfl,hk5⟩;have uG:=CM hk5;clear hk5 b0 bf x0 x1 x2 x3 x4 x5 x6)
     go_ret
     rw [HF.out]
     exact⟨rfl,xL.out.trans uG.out (fun _ h=>h.elim)⟩
    ·rw [hy]at vV
     have HY:=CM hy
     obtain⟨col,op,frm,oth,v⟩:=x
     have hcol:=lN yX.out hy
     simp only at hcol
     clear hy
     rcases hcol with rfl|rfl|rfl
     ·cases hz:fm (sets.take j) 1
      ·have HZ:=CM hz
       have vO:=CM (show d3 c (sets.take (j+1))=true by rw [HX.out,dh,wb.out,HY.out];unfold fm at hz;simpa using hz)
       have zR:=CM (show fA (sets.take (j+1))=(fA (sets.take j)).setIfInBounds 1 (.bool true) by rw [HX.out,qi rfl])
       clear hz
       go_wp2_with (go_at_call 48;refine vV.out.mono ?_;rintro e4 w4 ⟨rfl,hk5⟩;have uG:=CM hk5;clear hk5 b0 bf x0 x1 x2 x3 x4 x5 x6;obtain⟨x0,x1,x2,x3,x4,x5,x6⟩:=aC (aj uG.out HB3.out);obtain⟨z0,z1,z2,z3,zf⟩:=fe (aj uG.out wg.out);first|rw [HZ.out]at z1|rw [HZ.out]at z2|rw [HZ.out]at z3)
       go_roundw
       case rel=>exact⟨j+1,by go_num,by omega,vO.out,((HK4.out.trans uG.out (fun _ h=>h.elim)).setCell ⟨bm,1,none⟩ _ (.inl rfl)),by rw [zR.out];exact dM (aj uG.out wg.out) _⟩
       case measure=>simp [intOf];omega
      ·have HZ:=CM hz
       have HF:=CM (eW yX.out HL.out (j+1) (by rw [HX.out,dh];unfold fm at hz;have:=of_decide_eq_true hz;simp at this ⊢;intros;simpa using this))
       clear hz
       go_wp2_with (go_at_call 48;refine vV.out.mono ?_;rintro e4 w4 ⟨rfl,hk5⟩;have uG:=CM hk5;clear hk5 b0 bf x0 x1 x2 x3 x4 x5 x6;obtain⟨x0,x1,x2,x3,x4,x5,x6⟩:=aC (aj uG.out HB3.out);obtain⟨z0,z1,z2,z3,zf⟩:=fe (aj uG.out wg.out);first|rw [HZ.out]at z1|rw [HZ.out]at z2|rw [HZ.out]at z3)
       go_ret
       rw [HF.out]
       exact⟨rfl,xL.out.trans uG.out (fun _ h=>h.elim)⟩
     ·cases hz:fm (sets.take j) 2
      ·have HZ:=CM hz
       have vO:=CM (show d3 c (sets.take (j+1))=true by rw [HX.out,dh,wb.out,HY.out];unfold fm at hz;simpa using hz)
       have zR:=CM (show fA (sets.take (j+1))=(fA (sets.take j)).setIfInBounds 2 (.bool true) by rw [HX.out,pR rfl])
       clear hz
       go_wp2_with (go_at_call 48;refine vV.out.mono ?_;rintro e4 w4 ⟨rfl,hk5⟩;have uG:=CM hk5;clear hk5 b0 bf x0 x1 x2 x3 x4 x5 x6;obtain⟨x0,x1,x2,x3,x4,x5,x6⟩:=aC (aj uG.out HB3.out);obtain⟨z0,z1,z2,z3,zf⟩:=fe (aj uG.out wg.out);first|rw [HZ.out]at z1|rw [HZ.out]at z2|rw [HZ.out]at z3)
       go_roundw
       case rel=>exact⟨j+1,by go_num,by omega,vO.out,((HK4.out.trans uG.out (fun _ h=>h.elim)).setCell ⟨bm,2,none⟩ _ (.inl rfl)),by rw [zR.out];exact dM (aj uG.out wg.out) _⟩
       case measure=>simp [intOf];omega
      ·have HZ:=CM hz
       have HF:=CM (eW yX.out HL.out (j+1) (by rw [HX.out,dh];unfold fm at hz;have:=of_decide_eq_true hz;simp at this ⊢;intros;simpa using this))
       clear hz
       go_wp2_with (go_at_call 48;refine vV.out.mono ?_;rintro e4 w4 ⟨rfl,hk5⟩;have uG:=CM hk5;clear hk5 b0 bf x0 x1 x2 x3 x4 x5 x6;obtain⟨x0,x1,x2,x3,x4,x5,x6⟩:=aC (aj uG.out HB3.out);obtain⟨z0,z1,z2,z3,zf⟩:=fe (aj uG.out wg.out);first|rw [HZ.out]at z1|rw [HZ.out]at z2|rw [HZ.out]at z3)
       go_ret
       rw [HF.out]
       exact⟨rfl,xL.out.trans uG.out (fun _ h=>h.elim)⟩
     ·cases hz:fm (sets.take j) 3
      ·have HZ:=CM hz
       have vO:=CM (show d3 c (sets.take (j+1))=true by rw [HX.out,dh,wb.out,HY.out];unfold fm at hz;simpa using hz)
       have zR:=CM (show fA (sets.take (j+1))=(fA (sets.take j)).setIfInBounds 3 (.bool true) by rw [HX.out,pr rfl])
       clear hz
       go_wp2_with (go_at_call 48;refine vV.out.mono ?_;rintro e4 w4 ⟨rfl,hk5⟩;have uG:=CM hk5;clear hk5 b0 bf x0 x1 x2 x3 x4 x5 x6;obtain⟨x0,x1,x2,x3,x4,x5,x6⟩:=aC (aj uG.out HB3.out);obtain⟨z0,z1,z2,z3,zf⟩:=fe (aj uG.out wg.out);first|rw [HZ.out]at z1|rw [HZ.out]at z2|rw [HZ.out]at z3)
       go_roundw
       case rel=>exact⟨j+1,by go_num,by omega,vO.out,((HK4.out.trans uG.out (fun _ h=>h.elim)).setCell ⟨bm,3,none⟩ _ (.inl rfl)),by rw [zR.out];exact dM (aj uG.out wg.out) _⟩
       case measure=>simp [intOf];omega
      ·have HZ:=CM hz
       have HF:=CM (eW yX.out HL.out (j+1) (by rw [HX.out,dh];unfold fm at hz;have:=of_decide_eq_true hz;simp at this ⊢;intros;simpa using this))
       clear hz
       go_wp2_with (go_at_call 48;refine vV.out.mono ?_;rintro e4 w4 ⟨rfl,hk5⟩;have uG:=CM hk5;clear hk5 b0 bf x0 x1 x2 x3 x4 x5 x6;obtain⟨x0,x1,x2,x3,x4,x5,x6⟩:=aC (aj uG.out HB3.out);obtain⟨z0,z1,z2,z3,zf⟩:=fe (aj uG.out wg.out);first|rw [HZ.out]at z1|rw [HZ.out]at z2|rw [HZ.out]at z3)
       go_ret
       rw [HF.out]
       exact⟨rfl,xL.out.trans uG.out (fun _ h=>h.elim)⟩
   ·obtain rfl:j=N:=by omega
    have HF:=CM (o9 yX.out HL.out (show d3 c sets=true by rw [←wb.out,List.take_of_length_le (Nat.le_of_eq HN.out)]))
    have hlt2:¬(j:Int)<(j:Int):=by omega
    go_wp2_with fail
    go_ret
    rw [HF.out]
    exact⟨rfl,vI.out.trans xE.out (fun k h=>.inr (h▸wS.out))⟩
 ·have HL:=CM (show ¬sets.length≤3 by omega)
  have hl2:(N:Int) > 3:=by omega
  clear hm hN
  go_wp2_with ((go_at_call 31;refine wQ.out.mono ?_;rw [HM.out];rintro e1 w1 ⟨rfl,hk2⟩;have ux:=CM hk2;clear hk2 b0 bf))
  go_ret
  rw [re yX.out HL.out]
  exact⟨rfl,uq.out.trans ux.out (fun _ h=>h.elim)⟩
end Go.Proofs.YtdobimafhbfkhaaGreat
