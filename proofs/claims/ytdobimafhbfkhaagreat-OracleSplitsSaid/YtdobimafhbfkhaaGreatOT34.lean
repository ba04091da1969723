/- Something is done where a cursor stands (txn.at). -/
import Derived.Test.YtdobimafhbfkhaaGreatOT33
set_option maxHeartbeats 64000000
namespace Go.Proofs.YtdobimafhbfkhaaGreat
open Go.ChangeShapes Go.WideShapes Go.ChangeAt Go.RowKit
set_option maxRecDepth 100000
set_option linter.unusedSimpArgs false
@[go_sem] theorem sizeCur (x:CurE):x.cells.toArray.size=27:=rfl
theorem qt {w:World}{g o:Nat}{x:CurE}(h:w.rangeAt g o x.cells):(loadVar sS ⟨g,o,none⟩).run Tryz.prog w = .ok (.agg x.cells.toArray) w:=run_loadVar_mid w g o _ _ _ h Tryz.underlying94 rfl (by kernel_rfl)
theorem ui {w:World}{b:Nat}{x:CurE}{t:TypeId}{fr:Nat×Nat}(h:w.heap[b]?=some (.cells x.cells.toArray t fr)) :
  w.cell? ⟨b,0,none⟩=some (.bool x.opn)∧w.cell? ⟨b,1,none⟩=some (.bool x.change)∧w.cell? ⟨b,2,none⟩=some (.bool x.stands)∧w.cell? ⟨b,3,none⟩=some (.int .i64 x.table) ∧
   w.cell? ⟨b,24,none⟩=some (.bool x.key.t)∧w.cell? ⟨b,25,none⟩=some (.int .i64 x.key.n)∧w.cell? ⟨b,26,none⟩=some (.string x.key.s):=by
 refine⟨?_,?_,?_,?_,?_,?_,?_⟩<;>(rw [cell_of_row w b _ _ _ _ h];rfl)
structure TabAt (X:TxM)(i:Nat)(c:List Bool)(m:ay):Prop where
 tab:X.tabs[i]?=some m
 col:X.cols[i]?=some c
 well:TabI c m
 len:m.length≤200
theorem txAt_ok {B w:World}{D:PH}{x o n:Nat}{X:TxM}{l:List HP}{e:StmE}{s:StmM}{m:CurM}(hs:StmOk D e s)(hi:s.cursor=(n:Int))(hn:n<3)(hm:X.curs[n]?=some m)
  (hcur:m.opn=true→m.stands=true→∃i c mt,m.table=((i:Nat):Int)∧TabAt X i c mt∧am m.key=true) (hb:X.log.length+1≤10000) (h:TxIn B w D x o X l) :
  Calls Tryz.prog 80 #[.pointer (some ⟨x,0,none⟩),.agg e.cells.toArray] w (d4 B D x o l (X.at_ s)):=by
 obtain⟨W0,hW0,h2⟩:=dN h e.cells.toArray aZ tSt bl
 have uI:=CM hW0
 obtain⟨c,hc,hcell,cf⟩:=sP h2 hm
 have wT:=CM (show ∀W,Kept (fun _=>False) W0 W→∀j v,c.cells[j]?=some v→W.cell? ⟨x,6+n*27+j,none⟩=some v from fun W k j v hv=>by
  have:=hcell j v hv
  rw [←Nat.add_assoc]at this
  exact k.cell' this (fun h=>h))
 have uv:=CM h2
 have uz:=CM hs
 have yC:=CM (show e.cursor=(n:Int)from hs.cursor.trans hi)
 have xC:=CM (show X.cur s.cursor=m by rw [hi];exact mP hm)
 have zo:=CM hc
 have zK:=CM hcur
 have HB:=CM hb
 have hn3:(n:Int)<3:=by omega
 clear h hs hi hW0 h2 hcell hc hm cf hcur hb hn
 go_enter Tryz.func80,Tryz.ntmps80
 go_upto_region 1 with fail
 rw [←uI.out]
 clear uI
 generalize w.heap.size+1=ba at uv ⊢
 generalize w.heap.size=bs at uv ⊢
 obtain⟨x0,x2,x3,x4,x5,x6,x7,x17,x18,x19⟩:=bj (uv.out.sat.blk 1 rfl)
 rw [yC.out]at x18
 have Bp:=CM (qt (wT.out W0.drew (Kept.refl (fun _=>False) W0).drew))
 refine af [(0,false,8),(1,false,8),(2,false,8),(3,false,8),(4,false,8),(5,false,8),(6,false,8),(7,true,0),(8,true,0)] (by kernel_rfl) (by kernel_rfl) ?_
 iterate 7 (refine ae rfl rfl (fun K hK=>?_);(first|((refine cj _ _ rfl _ _ rfl _ Bp.out ?_);go_simp)|go_simp);refine hK _ ?_;clear hK K)
 refine ag rfl ?_
 refine wpList_plain rfl (fun K hK=>?_)
 go_simp
 refine hK _ _ ?_
 clear hK K
 refine wpList_nil ?_
 clear x0 x2 x3 x4 x5 x6 x7 x17 x18 x19
 have uk:=CM ((uv.out.alloc (Array.mk [.bool false,.bool false,.bool false,.int .i64 0,.int .i64 0,.int .i64 0,.bool false,.int .i64 0,.string ⟨#[]⟩,.bool false,.int .i64 0,.string ⟨#[]⟩,.slice none 0 0,.bool false,.bool false,.bool false,.bool false,.int .i64 0,.string ⟨#[]⟩,.bool false,.bool false,.bool false,.int .i64 0,.string ⟨#[]⟩,.bool false,.int .i64 0,.string ⟨#[]⟩]) sS).kept (Kept.refl (fun _=>False) _).drew)
 have uq:=CM (((Kept.refl (fun _=>False) W0).alloc (.cells (Array.mk [.bool false,.bool false,.bool false,.int .i64 0,.int .i64 0,.int .i64 0,.bool false,.int .i64 0,.string ⟨#[]⟩,.bool false,.int .i64 0,.string ⟨#[]⟩,.slice none 0 0,.bool false,.bool false,.bool false,.bool false,.int .i64 0,.string ⟨#[]⟩,.bool false,.bool false,.bool false,.int .i64 0,.string ⟨#[]⟩,.bool false,.int .i64 0,.string ⟨#[]⟩]) sS)).drew)
 obtain⟨W1,hW1⟩:∃W,W=(W0.alloc (.cells (Array.mk [.bool false,.bool false,.bool false,.int .i64 0,.int .i64 0,.int .i64 0,.bool false,.int .i64 0,.string ⟨#[]⟩,.bool false,.int .i64 0,.string ⟨#[]⟩,.slice none 0 0,.bool false,.bool false,.bool false,.bool false,.int .i64 0,.string ⟨#[]⟩,.bool false,.bool false,.bool false,.int .i64 0,.string ⟨#[]⟩,.bool false,.int .i64 0,.string ⟨#[]⟩]) sS)).drew:=⟨_,rfl⟩
 rw [←hW1]at uk uq ⊢
 clear hW1
 generalize W0.heap.size=bc at uk ⊢
 have As:=CM (qt (wT.out W1 uq.out))
 obtain⟨x0,x2,x3,x4,x5,x6,x7,x17,x18,x19⟩:=bj (uk.out.sat.blk 2 rfl)
 rw [yC.out]at x18
 refine And.intro ?_ ?_
 ·(refine And.intro (by(unfold Pend.ok;split<;>first|exact cj _ _ rfl _ _ rfl _ As.out rfl|trivial)) ?_;go_simp)
 refine ag rfl ?_
 refine az rfl _ _ _ rfl sS bc rfl c.cells rfl _ uk.out (by kernel_rfl) rfl (CurE.one c) ?_
 intro w2 htx2
 refine wpList_nil ?_
 have ur:=CM htx2
 clear htx2 uk x0 x2 x3 x4 x5 x6 x7 x17 x18 x19
 refine And.intro ?_ ?_
 ·go_simp
 refine ah ?_
 have uD:=CM (ur.out.perm (List.Perm.swap _ _ _))
 clear ur uv uq Bp As wT
 obtain⟨q0,q1,q2,q3,q4,q5,q6⟩:=ui (uD.out.sat.blk 1 rfl)
 rw [zo.out.1]at q0
 rw [zo.out.2.1]at q1
 rw [zo.out.2.2.1]at q2
 rw [zo.out.2.2.2.1]at q3
 rw [zo.out.2.2.2.2.2.2.1]at q4 q5 q6
 by_cases hall:m.opn=true∧m.stands=true∧m.change=true
 ·obtain⟨h1,h2,h3⟩:=hall
  obtain⟨i,cc,mt,hti,hta,hkr⟩:=zK.out h1 h2
  rw [h1]at q0
  rw [h3]at q1
  rw [h2]at q2
  rw [hti]at q3
  have HE:=CM (show X.at_ s=if s.kind=16 then X.drop (i:Int) m.key else if !cT cc s.sets then (X,cD 167)else X.one (i:Int) m.key s.sets by
   unfold TxM.at_
   rw [xC.out,h1,h2,h3,hti,mQ hta.col]
   rfl)
  have xx:=CM hta
  have wy:=CM hti
  have xE:=CM hkr
  clear h1 h2 h3 hti hta hkr
  obtain⟨x0,x2,x3,x4,x5,x6,x7,x17,x18,x19⟩:=bj (uD.out.sat.blk 2 rfl)
  rw [uz.out.kind]at x0
  by_cases h16:s.kind=16
  ·have xZ:=CM (show X.at_ s=X.drop (i:Int) m.key by rw [HE.out,if_pos h16])
   have HP:=CM (ml xx.out.tab xE.out HB.out uD.out)
   rw [h16]at x0
   clear h16
   go_wp2_with (first|(go_at_call 96;refine HP.out.mono ?_;rintro e2 w3 ⟨ra,rn,rc,D2,rfl,hle,hrw,hs3⟩;have uF:=CM hle;have vm:=CM hrw;have ve:=CM hs3;clear hle hrw hs3 HP uD x0 x2 x3 x4 x5 x6 x7 x17 x18 x19 q0 q1 q2 q3 q4 q5 q6)|(refine az rfl _ _ _ rfl bl ba rfl [_,.slice ra rn rc,_] rfl aZ ve.out (by kernel_rfl) rfl (by intro u hu;simp at hu;rcases hu with rfl|rfl|rfl<;>rfl) ?_;intro w6 hs6;have uu:=CM hs6;clear hs6 ve))
   refine bodyPost_ret (aR rfl _ _ rfl (bF rfl (aA (uu.out.sat.blk 0 rfl)))) rfl ?_
   rw [xZ.out]
   exact⟨ra,rn,rc,D2,rfl,uF.out,vm.out,uu.out.drop.drop.drop⟩
  ·have h16b:(s.kind == 16)=false:=by simpa using h16
   obtain⟨g,og,cap,cv,c0,d0,dc,hcol⟩:=l6 uD.out xx.out.col
   have hlc:(i:Int)<(X.cols.length:Int):=by have:=(List.getElem?_eq_some_iff.1 xx.out.col).1;omega
   have HCS:=CM (fK (RdP.rd hcol uD.out.sat.drew) (RdP.rd uz.out.sets.1 uD.out.sat.drew))
   have vT:=CM uz.out.sets
   obtain⟨sv,hsv⟩:∃v,e.sets.v=v:=⟨_,rfl⟩
   obtain⟨sa,sn,sc,hsv2⟩:∃a n c,sv = .slice a n c:=⟨_,_,_,hsv.symm⟩
   subst hsv2
   have hsv0:=CM hsv
   rw [hsv]at x7 HCS vT
   have BW:=CM (show X.at_ s=if !cT cc s.sets then (X,cD 167)else X.one (i:Int) m.key s.sets by rw [HE.out,if_neg h16])
   generalize X.cols.length=CN at *
   clear hcol hsv
   go_upto_region 8 with fail
   cases hst:cT cc s.sets with
   | false =>
    have Bq:=CM (show X.at_ s=(X,cD 167) by rw [BW.out,hst];rfl)
    have hse:d5 cc s.sets=20∨d5 cc s.sets=1:=by unfold d5;rw [hst];cases cu cc<;>simp
    clear hst
    rcases hse with hse|hse
    all_goals
     rw [hse]at HCS
     clear hse
     refine af [(0,false,13),(1,false,13),(2,false,13),(3,false,13),(4,false,13),(5,false,13),(6,false,13),(7,false,13),(8,false,13),(9,false,13),(10,false,13),(11,false,13),(12,false,13),(13,true,0),(14,false,999),(15,false,999)] (by kernel_rfl) (by kernel_rfl) ?_
     iterate 13 (refine ae rfl rfl (fun K hK=>?_);go_simp;refine hK _ ?_;clear hK K)
     refine ag rfl ?_
     refine au rfl (fun K hK=>?_)
     go_simp
     refine HCS.out.mono ?_
     rintro e2 w3 ⟨rfl,hk3⟩
     have ve:=CM ((uD.out.kept (Kept.refl (fun _=>False) _).drew).kept hk3)
     clear hk3 HCS uD c0 d0 dc x0 x2 x3 x4 x5 x6 x7 x17 x18 x19 q0 q1 q2 q3 q4 q5 q6
     refine hK _ _ ?_
     clear hK K
     refine wpList_nil ?_
     refine And.intro ?_ ?_
     ·go_simp
     iterate 2 (refine ae rfl rfl (fun K hK=>?_);go_simp;refine hK _ ?_;clear hK K)
     refine ah ?_
     go_wp2_with (refine az rfl _ _ _ rfl bl ba rfl [.int .i64 167,.slice none 0 0,.int .i64 0] rfl aZ ve.out (by kernel_rfl) rfl (by intro u hu;simp at hu;rcases hu with rfl|rfl|rfl<;>rfl) ?_;intro w6 hs6;have uu:=CM hs6;clear hs6 ve)
     refine bodyPost_ret (aR rfl _ _ rfl (bF rfl (aA (uu.out.sat.blk 0 rfl)))) rfl ?_
     rw [Bq.out]
     exact⟨none,0,0,D,rfl,PH.le.refl _,RowsF.nil _,uu.out.drop.drop.drop⟩
   | true =>
    have Bq:=CM (show X.at_ s=X.one (i:Int) m.key s.sets by rw [BW.out,hst];rfl)
    have hse:d5 cc s.sets=0:=by
     have hmy:cu cc=true:=by unfold cT at hst;simp at hst;exact hst.1.1.1
     unfold d5;rw [hmy,hst];rfl
    clear hst
    rw [hse]at HCS
    clear hse
    refine af [(0,false,13),(1,false,13),(2,false,13),(3,false,13),(4,false,13),(5,false,13),(6,false,13),(7,false,13),(8,false,13),(9,false,13),(10,false,13),(11,false,13),(12,false,13),(13,true,0),(14,false,999),(15,false,999)] (by kernel_rfl) (by kernel_rfl) ?_
    iterate 13 (refine ae rfl rfl (fun K hK=>?_);go_simp;refine hK _ ?_;clear hK K)
    refine ag rfl ?_
    refine au rfl (fun K hK=>?_)
    go_simp
    refine HCS.out.mono ?_
    rintro e2 w3 ⟨rfl,hk3⟩
    have ve:=CM ((uD.out.kept (Kept.refl (fun _=>False) _).drew).kept hk3)
    clear hk3 HCS uD c0 d0 dc x0 x2 x3 x4 x5 x6 x7 x17 x18 x19 q0 q1 q2 q3 q4 q5 q6
    refine hK _ _ ?_
    clear hK K
    refine wpList_nil ?_
    refine And.intro ?_ ?_
    ·go_simp
    iterate 2 (refine ae rfl rfl (fun K hK=>?_);go_simp;refine hK _ ?_;clear hK K)
    refine ah ?_
    have HP:=CM (oL (k:=m.key) xx.out.tab xx.out.col xx.out.well xx.out.len vT.out HB.out ve.out)
    obtain⟨q0,q1,q2,q3,q4,q5,q6⟩:=ui (ve.out.sat.blk 1 rfl)
    rw [zo.out.2.2.2.1,wy.out]at q3
    rw [zo.out.2.2.2.2.2.2.1]at q4 q5 q6
    obtain⟨x0,x2,x3,x4,x5,x6,x7,x17,x18,x19⟩:=bj (ve.out.sat.blk 2 rfl)
    rw [hsv0.out]at x7
    go_wp2_with (first|(go_at_call 95;refine HP.out.mono ?_;rintro e2 w3 ⟨ra,rn,rc,D2,rfl,hle,hrw,hs3⟩;have uF:=CM hle;have vm:=CM hrw;have vz:=CM hs3;clear hle hrw hs3 HP ve x0 x2 x3 x4 x5 x6 x7 x17 x18 x19 q0 q1 q2 q3 q4 q5 q6)|(refine az rfl _ _ _ rfl bl ba rfl [_,.slice ra rn rc,_] rfl aZ vz.out (by kernel_rfl) rfl (by intro u hu;simp at hu;rcases hu with rfl|rfl|rfl<;>rfl) ?_;intro w6 hs6;have uu:=CM hs6;clear hs6 vz))
    refine bodyPost_ret (aR rfl _ _ rfl (bF rfl (aA (uu.out.sat.blk 0 rfl)))) rfl ?_
    rw [Bq.out]
    exact⟨ra,rn,rc,D2,rfl,uF.out,vm.out,uu.out.drop.drop.drop⟩
 ·have HE:=CM (show X.at_ s=(X,cD 161) by
   unfold TxM.at_
   rw [xC.out]
   refine if_pos ?_
   cases h1:m.opn<;>cases h2:m.stands<;>cases h3:m.change<;>first|rfl|exact absurd ⟨h1,h2,h3⟩ hall)
  cases h1:m.opn
  ·rw [h1]at q0
   clear hall h1
   go_wp2_with (refine az rfl _ _ _ rfl bl ba rfl [.int .i64 161,.slice none 0 0,.int .i64 0] rfl aZ uD.out (by kernel_rfl) rfl (by intro u hu;simp at hu;rcases hu with rfl|rfl|rfl<;>rfl) ?_;intro w6 hs6;have uu:=CM hs6;clear hs6 uD)
   refine bodyPost_ret (aR rfl _ _ rfl (bF rfl (aA (uu.out.sat.blk 0 rfl)))) rfl ?_
   rw [HE.out]
   exact⟨none,0,0,D,rfl,PH.le.refl _,RowsF.nil _,uu.out.drop.drop.drop⟩
  ·cases h2:m.stands
   ·rw [h1]at q0
    rw [h2]at q2
    clear hall h1 h2
    go_wp2_with (refine az rfl _ _ _ rfl bl ba rfl [.int .i64 161,.slice none 0 0,.int .i64 0] rfl aZ uD.out (by kernel_rfl) rfl (by intro u hu;simp at hu;rcases hu with rfl|rfl|rfl<;>rfl) ?_;intro w6 hs6;have uu:=CM hs6;clear hs6 uD)
    refine bodyPost_ret (aR rfl _ _ rfl (bF rfl (aA (uu.out.sat.blk 0 rfl)))) rfl ?_
    rw [HE.out]
    exact⟨none,0,0,D,rfl,PH.le.refl _,RowsF.nil _,uu.out.drop.drop.drop⟩
   ·cases h3:m.change
    ·rw [h1]at q0
     rw [h2]at q2
     rw [h3]at q1
     clear hall h1 h2 h3
     go_wp2_with (refine az rfl _ _ _ rfl bl ba rfl [.int .i64 161,.slice none 0 0,.int .i64 0] rfl aZ uD.out (by kernel_rfl) rfl (by intro u hu;simp at hu;rcases hu with rfl|rfl|rfl<;>rfl) ?_;intro w6 hs6;have uu:=CM hs6;clear hs6 uD)
     refine bodyPost_ret (aR rfl _ _ rfl (bF rfl (aA (uu.out.sat.blk 0 rfl)))) rfl ?_
     rw [HE.out]
     exact⟨none,0,0,D,rfl,PH.le.refl _,RowsF.nil _,uu.out.drop.drop.drop⟩
    ·exact absurd ⟨h1,h2,h3⟩ hall
end Go.Proofs.YtdobimafhbfkhaaGreat
