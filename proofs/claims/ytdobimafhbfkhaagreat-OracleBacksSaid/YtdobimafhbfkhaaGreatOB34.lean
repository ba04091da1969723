/- Something is done where a cursor stands (txn.at). -/
import Derived.Test.YtdobimafhbfkhaaGreatOB33
set_option maxHeartbeats 64000000
namespace Go.Proofs.YtdobimafhbfkhaaGreat
open Go.ChangeShapes Go.WideShapes Go.ChangeAt Go.RowKit
set_option maxRecDepth 100000
set_option linter.unusedSimpArgs false
@[go_sem] theorem sizeCur (x:CurE):x.cells.toArray.size=27:=rfl
theorem pV {w:World}{g o:Nat}{x:CurE}(h:w.rangeAt g o x.cells):(loadVar tz ⟨g,o,none⟩).run Tryz.prog w = .ok (.agg x.cells.toArray) w:=run_loadVar_mid w g o _ _ _ h Tryz.underlying94 rfl (by kernel_rfl)
theorem rJ {w:World}{b:Nat}{x:CurE}{t:TypeId}{fr:Nat×Nat}(h:w.heap[b]?=some (.cells x.cells.toArray t fr)) :
  w.cell? ⟨b,0,none⟩=some (.bool x.opn)∧w.cell? ⟨b,1,none⟩=some (.bool x.change)∧w.cell? ⟨b,2,none⟩=some (.bool x.stands)∧w.cell? ⟨b,3,none⟩=some (.int .i64 x.table) ∧
   w.cell? ⟨b,24,none⟩=some (.bool x.key.t)∧w.cell? ⟨b,25,none⟩=some (.int .i64 x.key.n)∧w.cell? ⟨b,26,none⟩=some (.string x.key.s):=by
 refine⟨?_,?_,?_,?_,?_,?_,?_⟩<;>(rw [cell_of_row w b _ _ _ _ h];rfl)
structure TabAt (X:TxM)(i:Nat)(c:List Bool)(m:ar):Prop where
 tab:X.tabs[i]?=some m
 col:X.cols[i]?=some c
 well:TabI c m
 len:m.length≤200
theorem txAt_ok {B w:World}{D:PH}{x o n:Nat}{X:TxM}{l:List HP}{e:StmE}{s:StmM}{m:CurM}(hs:StmOk D e s)(hi:s.cursor=(n:Int))(hn:n<3)(hm:X.curs[n]?=some m)
  (hcur:m.opn=true→m.stands=true→∃i c mt,m.table=((i:Nat):Int)∧TabAt X i c mt∧al m.key=true) (hb:X.log.length+1≤10000) (h:TxIn B w D x o X l) :
  Calls Tryz.prog 80 #[.pointer (some ⟨x,0,none⟩),.agg e.cells.toArray] w (dV B D x o l (X.at_ s)):=by
 obtain⟨W0,hW0,h2⟩:=dL h e.cells.toArray aZ tSt bq
 have ul:=B5 hW0
 obtain⟨c,hc,hcell,cf⟩:=rI h2 hm
 have vW:=B5 (show ∀W,Kept (fun _=>False) W0 W→∀j v,c.cells[j]?=some v→W.cell? ⟨x,6+n*27+j,none⟩=some v from fun W k j v hv=>by
  have:=hcell j v hv
  rw [←Nat.add_assoc]at this
  exact k.cell' this (fun h=>h))
 have tO:=B5 h2
 have ui:=B5 hs
 have xL:=B5 (show e.cursor=(n:Int)from hs.cursor.trans hi)
 have wM:=B5 (show X.cur s.cursor=m by rw [hi];exact mv hm)
 have yt:=B5 hc
 have yR:=B5 hcur
 have HB:=B5 hb
 have hn3:(n:Int)<3:=by omega
 clear h hs hi hW0 h2 hcell hc hm cf hcur hb hn
 go_enter Tryz.func80,Tryz.ntmps80
 go_upto_region 1 with fail
 rw [←ul.out]
 clear ul
 generalize w.heap.size+1=ba at tO ⊢
 generalize w.heap.size=bs at tO ⊢
 obtain⟨x0,x2,x3,x4,x5,x6,x7,x17,x18,x19⟩:=bQ (tO.out.sat.blk 1 rfl)
 rw [xL.out]at x18
 have AG:=B5 (pV (vW.out W0.drew (Kept.refl (fun _=>False) W0).drew))
 refine af [(0,false,8),(1,false,8),(2,false,8),(3,false,8),(4,false,8),(5,false,8),(6,false,8),(7,true,0),(8,true,0)] (by kernel_rfl) (by kernel_rfl) ?_
 iterate 7 (refine ae rfl rfl (fun K hK=>?_);(first|((refine d9 _ _ rfl _ _ rfl _ AG.out ?_);go_simp)|go_simp);refine hK _ ?_;clear hK K)
 refine ah rfl ?_
 refine wpList_plain rfl (fun K hK=>?_)
 go_simp
 refine hK _ _ ?_
 clear hK K
 refine wpList_nil ?_
 clear x0 x2 x3 x4 x5 x6 x7 x17 x18 x19
 have tD:=B5 ((tO.out.alloc (Array.mk [.bool false,.bool false,.bool false,.int .i64 0,.int .i64 0,.int .i64 0,.bool false,.int .i64 0,.string ⟨#[]⟩,.bool false,.int .i64 0,.string ⟨#[]⟩,.slice none 0 0,.bool false,.bool false,.bool false,.bool false,.int .i64 0,.string ⟨#[]⟩,.bool false,.bool false,.bool false,.int .i64 0,.string ⟨#[]⟩,.bool false,.int .i64 0,.string ⟨#[]⟩]) tz).kept (Kept.refl (fun _=>False) _).drew)
 have tK:=B5 (((Kept.refl (fun _=>False) W0).alloc (.cells (Array.mk [.bool false,.bool false,.bool false,.int .i64 0,.int .i64 0,.int .i64 0,.bool false,.int .i64 0,.string ⟨#[]⟩,.bool false,.int .i64 0,.string ⟨#[]⟩,.slice none 0 0,.bool false,.bool false,.bool false,.bool false,.int .i64 0,.string ⟨#[]⟩,.bool false,.bool false,.bool false,.int .i64 0,.string ⟨#[]⟩,.bool false,.int .i64 0,.string ⟨#[]⟩]) tz)).drew)
 obtain⟨W1,hW1⟩:∃W,W=(W0.alloc (.cells (Array.mk [.bool false,.bool false,.bool false,.int .i64 0,.int .i64 0,.int .i64 0,.bool false,.int .i64 0,.string ⟨#[]⟩,.bool false,.int .i64 0,.string ⟨#[]⟩,.slice none 0 0,.bool false,.bool false,.bool false,.bool false,.int .i64 0,.string ⟨#[]⟩,.bool false,.bool false,.bool false,.int .i64 0,.string ⟨#[]⟩,.bool false,.int .i64 0,.string ⟨#[]⟩]) tz)).drew:=⟨_,rfl⟩
 rw [←hW1]at tD tK ⊢
 clear hW1
 generalize W0.heap.size=bc at tD ⊢
 have zE:=B5 (pV (vW.out W1 tK.out))
 obtain⟨x0,x2,x3,x4,x5,x6,x7,x17,x18,x19⟩:=bQ (tD.out.sat.blk 2 rfl)
 rw [xL.out]at x18
 refine And.intro ?_ ?_
 ·(refine And.intro (by(unfold Pend.ok;split<;>first|exact d9 _ _ rfl _ _ rfl _ zE.out rfl|trivial)) ?_;go_simp)
 refine ah rfl ?_
 refine ay rfl _ _ _ rfl tz bc rfl c.cells rfl _ tD.out (by kernel_rfl) rfl (CurE.one c) ?_
 intro w2 htx2
 refine wpList_nil ?_
 have tL:=B5 htx2
 clear htx2 tD x0 x2 x3 x4 x5 x6 x7 x17 x18 x19
 refine And.intro ?_ ?_
 ·go_simp
 refine ai ?_
 have tY:=B5 (tL.out.perm (List.Perm.swap _ _ _))
 clear tL tO tK AG zE vW
 obtain⟨q0,q1,q2,q3,q4,q5,q6⟩:=rJ (tY.out.sat.blk 1 rfl)
 rw [yt.out.1]at q0
 rw [yt.out.2.1]at q1
 rw [yt.out.2.2.1]at q2
 rw [yt.out.2.2.2.1]at q3
 rw [yt.out.2.2.2.2.2.2.1]at q4 q5 q6
 by_cases hall:m.opn=true∧m.stands=true∧m.change=true
 ·obtain⟨h1,h2,h3⟩:=hall
  obtain⟨i,cc,mt,hti,hta,hkr⟩:=yR.out h1 h2
  rw [h1]at q0
  rw [h3]at q1
  rw [h2]at q2
  rw [hti]at q3
  have HE:=B5 (show X.at_ s=if s.kind=16 then X.drop (i:Int) m.key else if !dn cc s.sets then (X,cd 167)else X.one (i:Int) m.key s.sets by
   unfold TxM.at_
   rw [wM.out,h1,h2,h3,hti,lk hta.col]
   rfl)
  have xM:=B5 hta
  have vB:=B5 hti
  have xC:=B5 hkr
  clear h1 h2 h3 hti hta hkr
  obtain⟨x0,x2,x3,x4,x5,x6,x7,x17,x18,x19⟩:=bQ (tY.out.sat.blk 2 rfl)
  rw [ui.out.kind]at x0
  by_cases h16:s.kind=16
  ·have yu:=B5 (show X.at_ s=X.drop (i:Int) m.key by rw [HE.out,if_pos h16])
   have HP:=B5 (lU xM.out.tab xC.out HB.out tY.out)
   rw [h16]at x0
   clear h16
   go_wp2_with (first|(go_at_call 96;refine HP.out.mono ?_;rintro e2 w3 ⟨ra,rn,rc,D2,rfl,hle,hrw,hs3⟩;have ub:=B5 hle;have uH:=B5 hrw;have uL:=B5 hs3;clear hle hrw hs3 HP tY x0 x2 x3 x4 x5 x6 x7 x17 x18 x19 q0 q1 q2 q3 q4 q5 q6)|(refine ay rfl _ _ _ rfl bq ba rfl [_,.slice ra rn rc,_] rfl aZ uL.out (by kernel_rfl) rfl (by intro u hu;simp at hu;rcases hu with rfl|rfl|rfl<;>rfl) ?_;intro w6 hs6;have tJ:=B5 hs6;clear hs6 uL))
   refine bodyPost_ret (aR rfl _ _ rfl (bE rfl (aA (tJ.out.sat.blk 0 rfl)))) rfl ?_
   rw [yu.out]
   exact⟨ra,rn,rc,D2,rfl,ub.out,uH.out,tJ.out.drop.drop.drop⟩
  ·have h16b:(s.kind == 16)=false:=by simpa using h16
   obtain⟨g,og,cap,cv,c0,d0,dc,hcol⟩:=lK tY.out xM.out.col
   have hlc:(i:Int)<(X.cols.length:Int):=by have:=(List.getElem?_eq_some_iff.1 xM.out.col).1;omega
   have uC:=B5 (fW (RdP.rd hcol tY.out.sat.drew) (RdP.rd ui.out.sets.1 tY.out.sat.drew))
   have vC:=B5 ui.out.sets
   obtain⟨sv,hsv⟩:∃v,e.sets.v=v:=⟨_,rfl⟩
   obtain⟨sa,sn,sc,hsv2⟩:∃a n c,sv = .slice a n c:=⟨_,_,_,hsv.symm⟩
   subst hsv2
   have hsv0:=B5 hsv
   rw [hsv]at x7 uC vC
   have Bd:=B5 (show X.at_ s=if !dn cc s.sets then (X,cd 167)else X.one (i:Int) m.key s.sets by rw [HE.out,if_neg h16])
   generalize X.cols.length=CN at *
   clear hcol hsv
   go_upto_region 8 with fail
   cases hst:dn cc s.sets with
   | false =>
    have AH:=B5 (show X.at_ s=(X,cd 167) by rw [Bd.out,hst];rfl)
    have hse:dZ cc s.sets=20∨dZ cc s.sets=1:=by unfold dZ;rw [hst];cases cO cc<;>simp
    clear hst
    rcases hse with hse|hse
    all_goals
     rw [hse]at uC
     clear hse
     refine af [(0,false,13),(1,false,13),(2,false,13),(3,false,13),(4,false,13),(5,false,13),(6,false,13),(7,false,13),(8,false,13),(9,false,13),(10,false,13),(11,false,13),(12,false,13),(13,true,0),(14,false,999),(15,false,999)] (by kernel_rfl) (by kernel_rfl) ?_
     iterate 13 (refine ae rfl rfl (fun K hK=>?_);go_simp;refine hK _ ?_;clear hK K)
     refine ah rfl ?_
     refine aq rfl (fun K hK=>?_)
     go_simp
     refine uC.out.mono ?_
     rintro e2 w3 ⟨rfl,hk3⟩
     have uL:=B5 ((tY.out.kept (Kept.refl (fun _=>False) _).drew).kept hk3)
     clear hk3 uC tY c0 d0 dc x0 x2 x3 x4 x5 x6 x7 x17 x18 x19 q0 q1 q2 q3 q4 q5 q6
     refine hK _ _ ?_
     clear hK K
     refine wpList_nil ?_
     refine And.intro ?_ ?_
     ·go_simp
     iterate 2 (refine ae rfl rfl (fun K hK=>?_);go_simp;refine hK _ ?_;clear hK K)
     refine ai ?_
     go_wp2_with (refine ay rfl _ _ _ rfl bq ba rfl [.int .i64 167,.slice none 0 0,.int .i64 0] rfl aZ uL.out (by kernel_rfl) rfl (by intro u hu;simp at hu;rcases hu with rfl|rfl|rfl<;>rfl) ?_;intro w6 hs6;have tJ:=B5 hs6;clear hs6 uL)
     refine bodyPost_ret (aR rfl _ _ rfl (bE rfl (aA (tJ.out.sat.blk 0 rfl)))) rfl ?_
     rw [AH.out]
     exact⟨none,0,0,D,rfl,PH.le.refl _,RowsF.nil _,tJ.out.drop.drop.drop⟩
   | true =>
    have AH:=B5 (show X.at_ s=X.one (i:Int) m.key s.sets by rw [Bd.out,hst];rfl)
    have hse:dZ cc s.sets=0:=by
     have hmy:cO cc=true:=by unfold dn at hst;simp at hst;exact hst.1.1.1
     unfold dZ;rw [hmy,hst];rfl
    clear hst
    rw [hse]at uC
    clear hse
    refine af [(0,false,13),(1,false,13),(2,false,13),(3,false,13),(4,false,13),(5,false,13),(6,false,13),(7,false,13),(8,false,13),(9,false,13),(10,false,13),(11,false,13),(12,false,13),(13,true,0),(14,false,999),(15,false,999)] (by kernel_rfl) (by kernel_rfl) ?_
    iterate 13 (refine ae rfl rfl (fun K hK=>?_);go_simp;refine hK _ ?_;clear hK K)
    refine ah rfl ?_
    refine aq rfl (fun K hK=>?_)
    go_simp
    refine uC.out.mono ?_
    rintro e2 w3 ⟨rfl,hk3⟩
    have uL:=B5 ((tY.out.kept (Kept.refl (fun _=>False) _).drew).kept hk3)
    clear hk3 uC tY c0 d0 dc x0 x2 x3 x4 x5 x6 x7 x17 x18 x19 q0 q1 q2 q3 q4 q5 q6
    refine hK _ _ ?_
    clear hK K
    refine wpList_nil ?_
    refine And.intro ?_ ?_
    ·go_simp
    iterate 2 (refine ae rfl rfl (fun K hK=>?_);go_simp;refine hK _ ?_;clear hK K)
    refine ai ?_
    have HP:=B5 (nT (k:=m.key) xM.out.tab xM.out.col xM.out.well xM.out.len vC.out HB.out uL.out)
    obtain⟨q0,q1,q2,q3,q4,q5,q6⟩:=rJ (uL.out.sat.blk 1 rfl)
    rw [yt.out.2.2.2.1,vB.out]at q3
    rw [yt.out.2.2.2.2.2.2.1]at q4 q5 q6
    obtain⟨x0,x2,x3,x4,x5,x6,x7,x17,x18,x19⟩:=bQ (uL.out.sat.blk 2 rfl)
    rw [hsv0.out]at x7
    go_wp2_with (first|(go_at_call 95;refine HP.out.mono ?_;rintro e2 w3 ⟨ra,rn,rc,D2,rfl,hle,hrw,hs3⟩;have ub:=B5 hle;have uH:=B5 hrw;have uR:=B5 hs3;clear hle hrw hs3 HP uL x0 x2 x3 x4 x5 x6 x7 x17 x18 x19 q0 q1 q2 q3 q4 q5 q6)|(refine ay rfl _ _ _ rfl bq ba rfl [_,.slice ra rn rc,_] rfl aZ uR.out (by kernel_rfl) rfl (by intro u hu;simp at hu;rcases hu with rfl|rfl|rfl<;>rfl) ?_;intro w6 hs6;have tJ:=B5 hs6;clear hs6 uR))
    refine bodyPost_ret (aR rfl _ _ rfl (bE rfl (aA (tJ.out.sat.blk 0 rfl)))) rfl ?_
    rw [AH.out]
    exact⟨ra,rn,rc,D2,rfl,ub.out,uH.out,tJ.out.drop.drop.drop⟩
 ·have HE:=B5 (show X.at_ s=(X,cd 161) by
   unfold TxM.at_
   rw [wM.out]
   refine if_pos ?_
   cases h1:m.opn<;>cases h2:m.stands<;>cases h3:m.change<;>first|rfl|exact absurd ⟨h1,h2,h3⟩ hall)
  cases h1:m.opn
  ·rw [h1]at q0
   clear hall h1
   go_wp2_with (refine ay rfl _ _ _ rfl bq ba rfl [.int .i64 161,.slice none 0 0,.int .i64 0] rfl aZ tY.out (by kernel_rfl) rfl (by intro u hu;simp at hu;rcases hu with rfl|rfl|rfl<;>rfl) ?_;intro w6 hs6;have tJ:=B5 hs6;clear hs6 tY)
   refine bodyPost_ret (aR rfl _ _ rfl (bE rfl (aA (tJ.out.sat.blk 0 rfl)))) rfl ?_
   rw [HE.out]
   exact⟨none,0,0,D,rfl,PH.le.refl _,RowsF.nil _,tJ.out.drop.drop.drop⟩
  ·cases h2:m.stands
   ·rw [h1]at q0
    rw [h2]at q2
    clear hall h1 h2
    go_wp2_with (refine ay rfl _ _ _ rfl bq ba rfl [.int .i64 161,.slice none 0 0,.int .i64 0] rfl aZ tY.out (by kernel_rfl) rfl (by intro u hu;simp at hu;rcases hu with rfl|rfl|rfl<;>rfl) ?_;intro w6 hs6;have tJ:=B5 hs6;clear hs6 tY)
    refine bodyPost_ret (aR rfl _ _ rfl (bE rfl (aA (tJ.out.sat.blk 0 rfl)))) rfl ?_
    rw [HE.out]
    exact⟨none,0,0,D,rfl,PH.le.refl _,RowsF.nil _,tJ.out.drop.drop.drop⟩
   ·cases h3:m.change
    ·rw [h1]at q0
     rw [h2]at q2
     rw [h3]at q1
     clear hall h1 h2 h3
     go_wp2_with (refine ay rfl _ _ _ rfl bq ba rfl [.int .i64 161,.slice none 0 0,.int .i64 0] rfl aZ tY.out (by kernel_rfl) rfl (by intro u hu;simp at hu;rcases hu with rfl|rfl|rfl<;>rfl) ?_;intro w6 hs6;have tJ:=B5 hs6;clear hs6 tY)
     refine bodyPost_ret (aR rfl _ _ rfl (bE rfl (aA (tJ.out.sat.blk 0 rfl)))) rfl ?_
     rw [HE.out]
     exact⟨none,0,0,D,rfl,PH.le.refl _,RowsF.nil _,tJ.out.drop.drop.drop⟩
    ·exact absurd ⟨h1,h2,h3⟩ hall
end Go.Proofs.YtdobimafhbfkhaaGreat
