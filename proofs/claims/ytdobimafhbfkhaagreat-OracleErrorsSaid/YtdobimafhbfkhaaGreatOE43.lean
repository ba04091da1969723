/- Whether a statement may be (oracle.Check). -/
import Derived.Test.YtdobimafhbfkhaaGreatOE38
import Derived.Test.YtdobimafhbfkhaaGreatOE40
import Derived.Test.YtdobimafhbfkhaaGreatOE42
import Derived.Deep.DeepCutAuto
set_option maxHeartbeats 64000000
namespace Go.Proofs.YtdobimafhbfkhaaGreat
open Go.ChangeShapes Go.WideShapes Go.ChangeAt Go.RowKit
set_option maxRecDepth 100000
set_option linter.unusedSimpArgs false
def okK (kind:Int)(key holds sets cursor save fits small:Bool):Bool :=
 if kind=4∨kind=5 then save else
 if kind=6∨kind=9 then key else
 if kind=7 then fits else
 if kind=8 then key&&sets else
 if kind=10∨kind=12 then holds else
 if kind=11 then holds&&sets else
 if kind=13 then holds&&cursor&&small else
 if 14≤kind∧kind≤17 then cursor else false
def ir (s:StmM):Bool:=decide (1≤s.cursor)&&decide (s.cursor≤2)
def cj (s:StmM):Bool:=decide (1≤s.save)&&decide (s.save≤3)
theorem oQ {cols:List (List Bool)}{s:StmM}(h:(decide (0≤s.table)&&decide (s.table<(cols.length:Int))&&cK (cols.getD s.table.toNat []))=false):okS cols s=okK s.kind false false false (ir s) (cj s) false false:=by
 unfold okS okK ir cj
 simp only [h,Bool.false_and]
theorem pJ {cols:List (List Bool)}{s:StmM}{i:Nat}{c:List Bool}(ht:s.table=(i:Int))(hc:cols[i]?=some c)(hm:cK c=true):okS cols s=okK s.kind (am s.key&&decide (s.key.t=c.getD 0 false)) (dy c s.pred) (dj c s.sets) (ir s) (cj s) (bD c s.row) (decide (s.pred.nodes.length≤13)):=by
 have hlt:=(List.getElem?_eq_some_iff.1 hc).1
 have h1:cols.getD s.table.toNat []=c:=by rw [ht,Int.toNat_natCast,List.getD_eq_getElem?_getD,hc];rfl
 have h2:decide (0≤s.table)=true:=decide_eq_true (by omega)
 have h3:decide (s.table<(cols.length:Int))=true:=decide_eq_true (by omega)
 unfold okS okK ir cj
 simp only [h1,h2,h3,hm,Bool.true_and]
theorem kM (k:Int):k=4∨k=5∨k=6∨k=7∨k=8∨k=9∨k=10∨k=11∨k=12∨k=13∨k=14∨k=15∨k=16∨k=17∨(k≠4∧k≠5∧k≠6∧k≠7∧k≠8∧k≠9∧k≠10∧k≠11∧k≠12∧k≠13∧k≠14∧k≠15∧k≠16∧k≠17):=by omega
theorem sr {w:World}{tv:Value}{cols:List (List Bool)}{e:StmE}{s:StmM}(ht:TblsAt (aF w) tv cols)(hs:StmOk (aF w) e s)(hn:s.pred.nodes.length≤1000000) :
  Calls Tryz.prog 12 #[tv,.agg e.cells.toArray] w fun r w'=>r = .returned (.int .i64 (if okS cols s then 0 else 167))∧Kept (fun _=>False) w w':=by
 obtain⟨W0,hW0,h0⟩:∃W,W=(w.alloc (.cells e.cells.toArray tSt)).alloc (.cells #[.slice none 0 0] bF)∧Sat w (aF w) W [blk (w.heap.size+1) #[.slice none 0 0] bF,blk w.heap.size e.cells.toArray tSt]:=by
  have h1:=((Sat.start w).alloc e.cells.toArray tSt).alloc #[.slice none 0 0] bF
  rw [World.size_alloc]at h1
  exact⟨_,rfl,h1⟩
 have tQ:=BO hW0
 obtain⟨us,hu1,hu2,hu3,hu4⟩:=ht
 obtain⟨ta,tc,rfl⟩:=hu3.shape
 have HU:=BO (And.intro hu1 hu4)
 have wO:=BO hu3
 have tH:=BO hs
 have zN:=BO hn
 have tw:=BO h0
 obtain⟨rr,hrr⟩:∃rr:Int,rr=(if okS cols s then 0 else 167):=⟨_,rfl⟩
 rw [←hrr]
 have HR:=BO hrr
 generalize hTN:cols.length=TN at *
 have xr:=BO hTN
 clear hW0 hu1 hu2 hu3 hu4 hs hn h0 hrr hTN
 go_enter Tryz.func12,Tryz.ntmps12
 go_upto_region 2 with fail
 rw [←tQ.out]
 clear tQ
 generalize w.heap.size+1=bt at tw ⊢
 generalize w.heap.size=bs at tw ⊢
 obtain⟨x0,x2,x3,x4,x5,x6,x7,x17,x18,x19⟩:=bK (tw.out.blk 1 rfl)
 obtain⟨z0,z1,z2,z3,z4,z5,z6,z7,z8⟩:=de (tw.out.blk 1 rfl)
 obtain⟨b0,bf⟩:=au (tw.out.blk 0 rfl)
 rw [tH.out.kind]at x0
 rw [tH.out.table]at x2
 rw [tH.out.key]at x3 x4 x5
 rw [tH.out.save]at x17
 rw [tH.out.cursor]at x18
 have wN:=BO (show e.row.v = .slice e.row.ro e.row.rn e.row.rc from rfl)
 obtain⟨isb,his⟩:∃isb:Bool,isb=(decide (0≤s.table)&&decide (s.table<(TN:Int))):=⟨_,rfl⟩
 have uR:=BO his
 clear his
 go_cut [6] (fun iv wx=>iv = .bool isb∧wx=W0)
 case first =>
  by_cases hr1:0≤s.table
  ·by_cases hr2:s.table<(TN:Int)
   ·have hb:isb=true:=by rw [uR.out,decide_eq_true hr1,decide_eq_true hr2];rfl
    go_wp2_with fail
    go_meet
    exact⟨by rw [hb],rfl⟩
   ·have hb:isb=false:=by rw [uR.out,decide_eq_true hr1,decide_eq_false hr2];rfl
    go_wp2_with fail
    go_meet
    exact⟨by rw [hb],rfl⟩
  ·have hb:isb=false:=by rw [uR.out,decide_eq_false hr1];rfl
   go_wp2_with fail
   go_meet
   exact⟨by rw [hb],rfl⟩
 case rest =>
  obtain⟨rfl,rfl⟩:=hcut
  go_upto_if 22 with fail
  go_cut [6] (fun iv wx=>∃(jb:Bool) (ca:Option Addr) (cn cc:Nat),iv = .bool jb∧Sat w (aF w) wx [blk bt #[.slice ca cn cc] bF,blk bs e.cells.toArray tSt]∧((jb=false∧okS cols s=okK s.kind false false false (ir s) (cj s) false false)∨(jb=true∧∃(i:Nat) (c:List Bool),s.table=(i:Int)∧cols[i]?=some c∧cK c=true∧cn=c.length∧RdP (aF w) 1 (.slice ca cn cc) c.length (c.flatMap dq))))
  case first =>
   cases isb with
   | false =>
    have HE:=BO (show okS cols s=okK s.kind false false false (ir s) (cj s) false false from oQ (by rw [xr.out,←uR.out];rfl))
    go_wp2_with fail
    go_meet
    exact⟨false,none,0,0,rfl,tw.out,.inl ⟨rfl,HE.out⟩⟩
   | true =>
    have hr:0≤s.table∧s.table<(TN:Int):=by
     have h1:=uR.out.symm
     simp only [Bool.and_eq_true,decide_eq_true_eq]at h1
     exact h1
    obtain⟨hr1,hr2⟩:=hr
    obtain⟨i,hi⟩:∃i:Nat,s.table=(i:Int):=⟨s.table.toNat,by omega⟩
    rw [hi]at x2 hr2
    have hiN:i<TN:=by omega
    obtain⟨c,hc⟩:∃c,cols[i]?=some c:=⟨cols[i]'(by rw [xr.out];exact hiN),List.getElem?_eq_getElem _⟩
    obtain⟨cv,hcv⟩:∃cv,us[i]?=some cv:=⟨us[i]'(by rw [HU.out.1];exact hiN),List.getElem?_eq_getElem _⟩
    have hcol:=HU.out.2 i cv c hcv hc
    obtain⟨ca,cc,rfl⟩:=hcol.shape
    obtain⟨tg,tof,rfl,htc⟩:∃tg tof,ta=some ⟨tg,tof,none⟩∧wc.cell? ⟨tg,tof+i,none⟩=some (.slice ca c.length cc):=by
     obtain⟨_,_,ao,cap,hv,_,_,_,hcell⟩:=wO.out.rd tw.out
     cases hv
     rcases hcell with h0|⟨g,og,hg,hcc⟩
     ·omega
     ·exact⟨g,og,hg,hcc i _ hcv⟩
    have tj:=BO (tw.out.set 0 (.slice ca c.length cc))
    have uX:=BO hcol
    have HC:=BO hc
    have HI:=BO hi
    clear hc hcv hcol hr1 hi
    go_upto_region 5 with fail
    obtain⟨W1,hW1⟩:∃W,W=wc.setCell ⟨bt,0,none⟩ (.slice ca c.length cc):=⟨_,rfl⟩
    rw [←hW1]at tj ⊢
    have tF:=BO (show Sat w (aF w) W1 [blk bt #[.slice ca c.length cc] bF,blk bs e.cells.toArray tSt]from tj.out)
    clear hW1 tj tw x0 x2 x3 x4 x5 x6 x7 x17 x18 x19 z0 z1 z2 z3 z4 z5 z6 z7 z8 b0 bf htc
    have ux:=BO (fp (uX.out.rd tF.out))
    obtain⟨b0,bf⟩:=au (tF.out.blk 0 rfl)
    cases hm:cK c with
    | false =>
     rw [show chk c=1 by unfold chk;rw [hm];rfl]at ux
     have HE:=BO (show okS cols s=okK s.kind false false false (ir s) (cj s) false false from oQ (by
      rw [HI.out,Int.toNat_natCast,List.getD_eq_getElem?_getD,HC.out]
      show(_&&cK c)=false
      rw [hm,Bool.and_false]))
     clear hm
     go_wp2_with (go_at_call 31;refine ux.out.mono ?_;rintro e1 w1 ⟨rfl,hk1⟩;have ul:=BO (tF.out.kept hk1);clear hk1 ux tF b0 bf)
     go_meet
     exact⟨false,ca,c.length,cc,rfl,ul.out,.inl ⟨rfl,HE.out⟩⟩
    | true =>
     rw [show chk c=0 by unfold chk;rw [hm];rfl]at ux
     have HM:=BO hm
     clear hm
     go_wp2_with (go_at_call 31;refine ux.out.mono ?_;rintro e1 w1 ⟨rfl,hk1⟩;have ul:=BO (tF.out.kept hk1);clear hk1 ux tF b0 bf)
     go_meet
     exact⟨true,ca,c.length,cc,rfl,ul.out,.inr ⟨rfl,i,c,HI.out,HC.out,HM.out,rfl,uX.out⟩⟩
  case rest =>
   obtain⟨jb,ca,cn,cc,rfl,hs,hj⟩:=hcut
   have ul:=BO hs
   clear hs tw x0 x2 x3 x4 x5 x6 x7 x17 x18 x19 z0 z1 z2 z3 z4 z5 z6 z7 z8 b0 bf
   obtain⟨x0,x2,x3,x4,x5,x6,x7,x17,x18,x19⟩:=bK (ul.out.blk 1 rfl)
   obtain⟨z0,z1,z2,z3,z4,z5,z6,z7,z8⟩:=de (ul.out.blk 1 rfl)
   obtain⟨b0,bf⟩:=au (ul.out.blk 0 rfl)
   rw [tH.out.kind]at x0
   rw [tH.out.key]at x3 x4 x5
   rw [tH.out.save]at x17
   rw [tH.out.cursor]at x18
   rcases hj with ⟨rfl,he⟩|⟨rfl,i,c,hi,hc,hm,rfl,hcol⟩
   ·have HE:=BO he
    clear he
    go_upto_region 6 with fail
    refine af [(0,false,4),(1,false,4),(2,false,4),(3,false,4),(4,true,0),(5,false,999),(6,false,999),(7,false,999),(8,false,999),(9,false,999),(10,false,999),(11,false,999),(12,false,999),(13,false,999),(14,false,999),(15,false,999),(16,false,999)] (by kernel_rfl) (by kernel_rfl) ?_
    iterate 2 (refine ae rfl rfl (fun K hK=>?_);go_simp;refine hK _ ?_;clear hK K)
    iterate 2 (first|(refine ar rfl rfl ?_;simp only [Act.put,BP,BQ,BR,BS,BT,BU])|(refine al rfl rfl (fun K hK=>?_);go_simp;refine hK _ ?_;clear hK K))
    refine ah rfl ?_
    refine bJ rfl ?_
    simp only [Act.put,BP,BQ,BR]
    refine wpList_nil ?_
    refine And.intro ?_ ?_
    ·go_simp
    iterate 2 (refine ae rfl rfl (fun K hK=>?_);go_simp;refine hK _ ?_;clear hK K)
    iterate 8 (first|(refine ar rfl rfl ?_;simp only [Act.put,BP,BQ,BR,BS,BT,BU])|(refine al rfl rfl (fun K hK=>?_);go_simp;refine hK _ ?_;clear hK K))
    iterate 2 (refine ae rfl rfl (fun K hK=>?_);go_simp;refine hK _ ?_;clear hK K)
    refine ai ?_
    have tA:=BO (ul.out.kept (Kept.refl (fun _=>False) _).drew)
    clear ul x0 x2 x3 x4 x5 x6 x7 x17 x18 x19 z0 z1 z2 z3 z4 z5 z6 z7 z8 b0 bf
    obtain⟨x0,x2,x3,x4,x5,x6,x7,x17,x18,x19⟩:=bK (tA.out.blk 1 rfl)
    obtain⟨z0,z1,z2,z3,z4,z5,z6,z7,z8⟩:=de (tA.out.blk 1 rfl)
    obtain⟨b0,bf⟩:=au (tA.out.blk 0 rfl)
    rw [tH.out.kind]at x0
    rw [tH.out.key]at x3 x4 x5
    rw [tH.out.save]at x17
    rw [tH.out.cursor]at x18
    obtain⟨cb,hcb⟩:∃cb,ir s=cb:=⟨_,rfl⟩
    rw [hcb]at HE
    have yn:=BO (show cb=(decide (1≤s.cursor)&&decide (s.cursor≤2))from hcb.symm)
    clear hcb
    go_upto_region 9 with fail
    go_cut [10] (fun dv wx=>dv = .bool cb∧Sat w (aF w) wx [blk bt #[.slice ca cn cc] bF,blk bs e.cells.toArray tSt])
    case first =>
     by_cases h1:1≤s.cursor
     ·by_cases h2:s.cursor≤2
      ·have hb:cb=true:=by rw [yn.out,decide_eq_true h1,decide_eq_true h2];rfl
       go_wp2_with fail
       go_meet
       exact⟨by rw [hb],tA.out⟩
      ·have hb:cb=false:=by rw [yn.out,decide_eq_true h1,decide_eq_false h2];rfl
       go_wp2_with fail
       go_meet
       exact⟨by rw [hb],tA.out⟩
     ·have hb:cb=false:=by rw [yn.out,decide_eq_false h1];rfl
      go_wp2_with fail
      go_meet
      exact⟨by rw [hb],tA.out⟩
    case rest =>
     obtain⟨rfl,hs10⟩:=hcut
     clear tA x0 x2 x3 x4 x5 x6 x7 x17 x18 x19 z0 z1 z2 z3 z4 z5 z6 z7 z8 b0 bf
     have tA:=BO hs10
     clear hs10
     obtain⟨x0,x2,x3,x4,x5,x6,x7,x17,x18,x19⟩:=bK (tA.out.blk 1 rfl)
     obtain⟨z0,z1,z2,z3,z4,z5,z6,z7,z8⟩:=de (tA.out.blk 1 rfl)
     obtain⟨b0,bf⟩:=au (tA.out.blk 0 rfl)
     rw [tH.out.kind]at x0
     rw [tH.out.key]at x3 x4 x5
     rw [tH.out.save]at x17
     rw [tH.out.cursor]at x18
     rcases kM s.kind with hk|hk|hk|hk|hk|hk|hk|hk|hk|hk|hk|hk|hk|hk|hk
     ·rw [hk]at x0
      by_cases h1:1≤s.save
      ·by_cases h2:s.save≤3
       ·go_wp2_with fail
        refine bodyPost_ret (results_tmp rfl _ _ _) rfl ?_
        exact⟨by rw [HR.out,HE.out];simp [okK,cj,hk,h1,h2],tA.out.end_ (PH.le.refl _)⟩
       ·go_wp2_with fail
        refine bodyPost_ret (results_tmp rfl _ _ _) rfl ?_
        exact⟨by rw [HR.out,HE.out];simp [okK,cj,hk,h1,h2],tA.out.end_ (PH.le.refl _)⟩
      ·go_wp2_with fail
       refine bodyPost_ret (results_tmp rfl _ _ _) rfl ?_
       exact⟨by rw [HR.out,HE.out];simp [okK,cj,hk];omega,tA.out.end_ (PH.le.refl _)⟩
     ·rw [hk]at x0
      by_cases h1:1≤s.save
      ·by_cases h2:s.save≤3
       ·go_wp2_with fail
        refine bodyPost_ret (results_tmp rfl _ _ _) rfl ?_
        exact⟨by rw [HR.out,HE.out];simp [okK,cj,hk,h1,h2],tA.out.end_ (PH.le.refl _)⟩
       ·go_wp2_with fail
        refine bodyPost_ret (results_tmp rfl _ _ _) rfl ?_
        exact⟨by rw [HR.out,HE.out];simp [okK,cj,hk,h1,h2],tA.out.end_ (PH.le.refl _)⟩
      ·go_wp2_with fail
       refine bodyPost_ret (results_tmp rfl _ _ _) rfl ?_
       exact⟨by rw [HR.out,HE.out];simp [okK,cj,hk];omega,tA.out.end_ (PH.le.refl _)⟩
     ·rw [hk]at x0
      go_wp2_with fail
      refine bodyPost_ret (results_tmp rfl _ _ _) rfl ?_
      exact⟨by rw [HR.out,HE.out];simp [okK,cj,hk],tA.out.end_ (PH.le.refl _)⟩
     ·rw [hk]at x0
      go_wp2_with fail
      refine bodyPost_ret (results_tmp rfl _ _ _) rfl ?_
      exact⟨by rw [HR.out,HE.out];simp [okK,cj,hk],tA.out.end_ (PH.le.refl _)⟩
     ·rw [hk]at x0
      go_wp2_with fail
      refine bodyPost_ret (results_tmp rfl _ _ _) rfl ?_
      exact⟨by rw [HR.out,HE.out];simp [okK,cj,hk],tA.out.end_ (PH.le.refl _)⟩
     ·rw [hk]at x0
      go_wp2_with fail
      refine bodyPost_ret (results_tmp rfl _ _ _) rfl ?_
      exact⟨by rw [HR.out,HE.out];simp [okK,cj,hk],tA.out.end_ (PH.le.refl _)⟩
     ·rw [hk]at x0
      go_wp2_with fail
      refine bodyPost_ret (results_tmp rfl _ _ _) rfl ?_
      exact⟨by rw [HR.out,HE.out];simp [okK,cj,hk],tA.out.end_ (PH.le.refl _)⟩
     ·rw [hk]at x0
      go_wp2_with fail
      refine bodyPost_ret (results_tmp rfl _ _ _) rfl ?_
      exact⟨by rw [HR.out,HE.out];simp [okK,cj,hk],tA.out.end_ (PH.le.refl _)⟩
     ·rw [hk]at x0
      go_wp2_with fail
      refine bodyPost_ret (results_tmp rfl _ _ _) rfl ?_
      exact⟨by rw [HR.out,HE.out];simp [okK,cj,hk],tA.out.end_ (PH.le.refl _)⟩
     ·rw [hk]at x0
      go_wp2_with fail
      refine bodyPost_ret (results_tmp rfl _ _ _) rfl ?_
      exact⟨by rw [HR.out,HE.out];simp [okK,cj,hk],tA.out.end_ (PH.le.refl _)⟩
     ·rw [hk]at x0
      cases cb<;>(go_wp2_with fail;refine bodyPost_ret (results_tmp rfl _ _ _) rfl ?_;exact⟨by rw [HR.out,HE.out];simp [okK,cj,hk],tA.out.end_ (PH.le.refl _)⟩)
     ·rw [hk]at x0
      cases cb<;>(go_wp2_with fail;refine bodyPost_ret (results_tmp rfl _ _ _) rfl ?_;exact⟨by rw [HR.out,HE.out];simp [okK,cj,hk],tA.out.end_ (PH.le.refl _)⟩)
     ·rw [hk]at x0
      cases cb<;>(go_wp2_with fail;refine bodyPost_ret (results_tmp rfl _ _ _) rfl ?_;exact⟨by rw [HR.out,HE.out];simp [okK,cj,hk],tA.out.end_ (PH.le.refl _)⟩)
     ·rw [hk]at x0
      cases cb<;>(go_wp2_with fail;refine bodyPost_ret (results_tmp rfl _ _ _) rfl ?_;exact⟨by rw [HR.out,HE.out];simp [okK,cj,hk],tA.out.end_ (PH.le.refl _)⟩)
     ·obtain⟨k4,k5,k6,k7,k8,k9,k10,k11,k12,k13,k14,k15,k16,k17⟩:=hk
      have hk:¬(14≤s.kind∧s.kind≤17):=by omega
      go_wp2_with fail
      refine bodyPost_ret (results_tmp rfl _ _ _) rfl ?_
      exact⟨by rw [HR.out,HE.out];simp [okK,cj,hk,k4,k5,k6,k7,k8,k9,k10,k11,k12,k13],tA.out.end_ (PH.le.refl _)⟩
   ·have HE:=BO (show okS cols s=_ from pJ hi hc hm)
    have HM:=BO hm
    have uX:=BO hcol
    obtain⟨c0,hc0⟩:∃c0,c[0]?=some c0:=⟨c[0]'(by unfold cK at hm;simp at hm;omega),List.getElem?_eq_getElem _⟩
    have yz:=BO (show c.getD 0 false=c0 by rw [List.getD_eq_getElem?_getD,hc0];rfl)
    rw [yz.out]at HE
    have hcl:0<c.length:=(List.getElem?_eq_some_iff.1 hc0).1
    have hcl2:(0:Int)<(c.length:Int):=by omega
    obtain⟨cg,cof,rfl,hcz⟩:∃cg cof,ca=some ⟨cg,cof,none⟩∧∀W,Sat w (aF w) W [blk bt #[.slice ca c.length cc] bF,blk bs e.cells.toArray tSt]→W.cell? ⟨cg,cof,none⟩=some (.bool c0):=by
     obtain⟨_,_,ao,cap,hv,_,_,_,hcell⟩:=hcol
     cases hv
     rcases hcell with h0|⟨g,og,rfl,hcc⟩
     ·omega
     ·refine⟨g,og,rfl,fun W hW=>?_⟩
      obtain⟨_,_,ao,cap,hv,_,_,_,hcell2⟩:=uX.out.rd hW
      cases hv
      rcases hcell2 with h0|⟨g2,og2,hg2,hcc2⟩
      ·omega
      ·cases hg2
       exact hcc2 0 _ (by cases c with|nil=>cases hc0|cons a c=>simp at hc0;subst hc0;rfl)
    have AZ:=BO hcz
    have hcz0:=hcz _ ul.out
    obtain⟨kb,hkb⟩:∃kb,(am s.key&&decide (s.key.t=c0))=kb:=⟨_,rfl⟩
    rw [hkb]at HE
    have A0:=BO hkb
    clear hi hc hm hcol hc0 hcz hkb
    go_upto_region 6 with fail
    go_cut [7] (fun kv wx=>kv = .bool kb∧Sat w (aF w) wx [blk bt #[.slice (some ⟨cg,cof,none⟩) c.length cc] bF,blk bs e.cells.toArray tSt])
    case first =>
     have uf:=BO (aH s.key wc.drew)
     cases hvr:am s.key with
     | false =>
      rw [hvr]at uf
      have vG:=BO (show kb=false by rw [←A0.out,hvr];rfl)
      clear hvr
      refine af [(0,false,4),(1,false,4),(2,false,4),(3,false,4),(4,true,0),(5,false,999),(6,false,999),(7,false,999),(8,false,999),(9,false,999),(10,false,999),(11,false,999),(12,false,999),(13,false,999),(14,false,999),(15,false,999),(16,false,999)] (by kernel_rfl) (by kernel_rfl) ?_
      iterate 2 (refine ae rfl rfl (fun K hK=>?_);go_simp;refine hK _ ?_;clear hK K)
      iterate 2 (first|(refine ar rfl rfl ?_;simp only [Act.put,BP,BQ,BR,BS,BT,BU])|(refine al rfl rfl (fun K hK=>?_);go_simp;refine hK _ ?_;clear hK K))
      refine ah rfl ?_
      refine aq rfl (fun K hK=>?_)
      go_simp
      refine uf.out.mono ?_
      rintro e2 w2 ⟨rfl,hk2⟩
      have uw:=BO ((ul.out.kept (Kept.refl (fun _=>False) _).drew).kept hk2)
      clear hk2 uf ul x0 x2 x3 x4 x5 x6 x7 x17 x18 x19 z0 z1 z2 z3 z4 z5 z6 z7 z8 b0 bf hcz0
      obtain⟨x0,x2,x3,x4,x5,x6,x7,x17,x18,x19⟩:=bK (uw.out.blk 1 rfl)
      obtain⟨z0,z1,z2,z3,z4,z5,z6,z7,z8⟩:=de (uw.out.blk 1 rfl)
      obtain⟨b0,bf⟩:=au (uw.out.blk 0 rfl)
      rw [tH.out.kind]at x0
      rw [tH.out.key]at x3 x4 x5
      rw [tH.out.save]at x17
      rw [tH.out.cursor]at x18
      have hcz0:=AZ.out w2 uw.out
      refine hK _ _ ?_
      clear hK K
      refine wpList_nil ?_
      refine And.intro ?_ ?_
      ·go_simp
      iterate 2 (refine ae rfl rfl (fun K hK=>?_);go_simp;refine hK _ ?_;clear hK K)
      iterate 8 (first|(refine ar rfl rfl ?_;simp only [Act.put,BP,BQ,BR,BS,BT,BU])|(refine al rfl rfl (fun K hK=>?_);go_simp;refine hK _ ?_;clear hK K))
      iterate 2 (refine ae rfl rfl (fun K hK=>?_);go_simp;refine hK _ ?_;clear hK K)
      refine ai ?_
      go_wp2_with fail
      go_meet
      exact⟨by rw [vG.out],uw.out⟩
     | true =>
      rw [hvr]at uf
      have vG:=BO (show kb=(s.key.t == c0) by rw [←A0.out,hvr];rfl)
      clear hvr
      refine af [(0,false,4),(1,false,4),(2,false,4),(3,false,4),(4,true,0),(5,false,999),(6,false,999),(7,false,999),(8,false,999),(9,false,999),(10,false,999),(11,false,999),(12,false,999),(13,false,999),(14,false,999),(15,false,999),(16,false,999)] (by kernel_rfl) (by kernel_rfl) ?_
      iterate 2 (refine ae rfl rfl (fun K hK=>?_);go_simp;refine hK _ ?_;clear hK K)
      iterate 2 (first|(refine ar rfl rfl ?_;simp only [Act.put,BP,BQ,BR,BS,BT,BU])|(refine al rfl rfl (fun K hK=>?_);go_simp;refine hK _ ?_;clear hK K))
      refine ah rfl ?_
      refine aq rfl (fun K hK=>?_)
      go_simp
      refine uf.out.mono ?_
      rintro e2 w2 ⟨rfl,hk2⟩
      have uw:=BO ((ul.out.kept (Kept.refl (fun _=>False) _).drew).kept hk2)
      clear hk2 uf ul x0 x2 x3 x4 x5 x6 x7 x17 x18 x19 z0 z1 z2 z3 z4 z5 z6 z7 z8 b0 bf hcz0
      obtain⟨x0,x2,x3,x4,x5,x6,x7,x17,x18,x19⟩:=bK (uw.out.blk 1 rfl)
      obtain⟨z0,z1,z2,z3,z4,z5,z6,z7,z8⟩:=de (uw.out.blk 1 rfl)
      obtain⟨b0,bf⟩:=au (uw.out.blk 0 rfl)
      rw [tH.out.kind]at x0
      rw [tH.out.key]at x3 x4 x5
      rw [tH.out.save]at x17
      rw [tH.out.cursor]at x18
      have hcz0:=AZ.out w2 uw.out
      refine hK _ _ ?_
      clear hK K
      refine wpList_nil ?_
      refine And.intro ?_ ?_
      ·go_simp
      iterate 2 (refine ae rfl rfl (fun K hK=>?_);go_simp;refine hK _ ?_;clear hK K)
      iterate 8 (first|(refine ar rfl rfl ?_;simp only [Act.put,BP,BQ,BR,BS,BT,BU])|(refine al rfl rfl (fun K hK=>?_);go_simp;refine hK _ ?_;clear hK K))
      iterate 2 (refine ae rfl rfl (fun K hK=>?_);go_simp;refine hK _ ?_;clear hK K)
      refine ai ?_
      go_wp2_with fail
      go_meet
      exact⟨by rw [vG.out],uw.out⟩
    case rest =>
     obtain⟨rfl,hs7⟩:=hcut
     have uw:=BO hs7
     clear hs7 ul x0 x2 x3 x4 x5 x6 x7 x17 x18 x19 z0 z1 z2 z3 z4 z5 z6 z7 z8 b0 bf hcz0
     obtain⟨x0,x2,x3,x4,x5,x6,x7,x17,x18,x19⟩:=bK (uw.out.blk 1 rfl)
     obtain⟨z0,z1,z2,z3,z4,z5,z6,z7,z8⟩:=de (uw.out.blk 1 rfl)
     obtain⟨b0,bf⟩:=au (uw.out.blk 0 rfl)
     rw [tH.out.kind]at x0
     rw [tH.out.key]at x3 x4 x5
     rw [tH.out.save]at x17
     rw [tH.out.cursor]at x18
     obtain⟨pb,hpb⟩:∃pb,dy c s.pred=pb:=⟨_,rfl⟩
     rw [hpb]at HE
     have xK:=BO (o8 e.pe uX.out HM.out tH.out.subs (by rw [tH.out.pred];exact zN.out) uw.out)
     rw [tH.out.pred,hpb]at xK
     clear hpb
     go_upto_region 7 with fail
     go_cut [8] (fun dv wx=>dv = .bool pb∧Sat w (aF w) wx [blk bt #[.slice (some ⟨cg,cof,none⟩) c.length cc] bF,blk bs e.cells.toArray tSt])
     case first =>
      cases pb
      ·go_wp2_with (go_at_call 33;refine xK.out.mono ?_;rintro e8 w8 ⟨rfl,hs8⟩;have uC:=BO hs8;clear hs8 xK uw x0 x2 x3 x4 x5 x6 x7 x17 x18 x19 z0 z1 z2 z3 z4 z5 z6 z7 z8 b0 bf)
       go_meet
       exact⟨rfl,uC.out⟩
      ·go_wp2_with (go_at_call 33;refine xK.out.mono ?_;rintro e8 w8 ⟨rfl,hs8⟩;have uC:=BO hs8;clear hs8 xK uw x0 x2 x3 x4 x5 x6 x7 x17 x18 x19 z0 z1 z2 z3 z4 z5 z6 z7 z8 b0 bf)
       go_meet
       exact⟨rfl,uC.out⟩
     case rest =>
      obtain⟨rfl,hs8⟩:=hcut
      have uC:=BO hs8
      clear hs8 xK uw x0 x2 x3 x4 x5 x6 x7 x17 x18 x19 z0 z1 z2 z3 z4 z5 z6 z7 z8 b0 bf
      obtain⟨x0,x2,x3,x4,x5,x6,x7,x17,x18,x19⟩:=bK (uC.out.blk 1 rfl)
      obtain⟨z0,z1,z2,z3,z4,z5,z6,z7,z8⟩:=de (uC.out.blk 1 rfl)
      obtain⟨b0,bf⟩:=au (uC.out.blk 0 rfl)
      rw [tH.out.kind]at x0
      rw [tH.out.key]at x3 x4 x5
      rw [tH.out.save]at x17
      rw [tH.out.cursor]at x18
      obtain⟨sb,hsb⟩:∃sb,dj c s.sets=sb:=⟨_,rfl⟩
      rw [hsb]at HE
      have uh:=BO (fE (uX.out.rd uC.out) (RdP.rd tH.out.sets.1 uC.out))
      rw [show dX c s.sets=if sb then 0 else 20 by unfold dX;rw [HM.out,hsb];rfl]at uh
      obtain⟨sva,svn,svc,hsv⟩:∃a n c,e.sets.v = .slice a n c:=⟨_,_,_,rfl⟩
      rw [hsv]at uh x7
      clear hsb hsv
      go_upto_region 8 with fail
      go_cut [9] (fun dv wx=>dv = .bool sb∧Sat w (aF w) wx [blk bt #[.slice (some ⟨cg,cof,none⟩) c.length cc] bF,blk bs e.cells.toArray tSt])
      case first =>
       cases sb
       ·go_wp2_with (go_at_call 34;refine uh.out.mono ?_;rintro e9 w9 ⟨rfl,hk9⟩;have vp:=BO (uC.out.kept hk9);clear hk9 uh uC x0 x2 x3 x4 x5 x6 x7 x17 x18 x19 z0 z1 z2 z3 z4 z5 z6 z7 z8 b0 bf)
        go_meet
        exact⟨rfl,vp.out⟩
       ·go_wp2_with (go_at_call 34;refine uh.out.mono ?_;rintro e9 w9 ⟨rfl,hk9⟩;have vp:=BO (uC.out.kept hk9);clear hk9 uh uC x0 x2 x3 x4 x5 x6 x7 x17 x18 x19 z0 z1 z2 z3 z4 z5 z6 z7 z8 b0 bf)
        go_meet
        exact⟨rfl,vp.out⟩
      case rest =>
       obtain⟨rfl,hs9⟩:=hcut
       have tA:=BO hs9
       clear hs9 uh uC x0 x2 x3 x4 x5 x6 x7 x17 x18 x19 z0 z1 z2 z3 z4 z5 z6 z7 z8 b0 bf
       obtain⟨x0,x2,x3,x4,x5,x6,x7,x17,x18,x19⟩:=bK (tA.out.blk 1 rfl)
       obtain⟨z0,z1,z2,z3,z4,z5,z6,z7,z8⟩:=de (tA.out.blk 1 rfl)
       obtain⟨b0,bf⟩:=au (tA.out.blk 0 rfl)
       rw [tH.out.kind]at x0
       rw [tH.out.key]at x3 x4 x5
       rw [tH.out.save]at x17
       rw [tH.out.cursor]at x18
       obtain⟨cb,hcb⟩:∃cb,ir s=cb:=⟨_,rfl⟩
       rw [hcb]at HE
       have yn:=BO (show cb=(decide (1≤s.cursor)&&decide (s.cursor≤2))from hcb.symm)
       clear hcb
       go_upto_region 9 with fail
       go_cut [10] (fun dv wx=>dv = .bool cb∧Sat w (aF w) wx [blk bt #[.slice (some ⟨cg,cof,none⟩) c.length cc] bF,blk bs e.cells.toArray tSt])
       case first =>
        by_cases h1:1≤s.cursor
        ·by_cases h2:s.cursor≤2
         ·have hb:cb=true:=by rw [yn.out,decide_eq_true h1,decide_eq_true h2];rfl
          go_wp2_with fail
          go_meet
          exact⟨by rw [hb],tA.out⟩
         ·have hb:cb=false:=by rw [yn.out,decide_eq_true h1,decide_eq_false h2];rfl
          go_wp2_with fail
          go_meet
          exact⟨by rw [hb],tA.out⟩
        ·have hb:cb=false:=by rw [yn.out,decide_eq_false h1];rfl
         go_wp2_with fail
         go_meet
         exact⟨by rw [hb],tA.out⟩
       case rest =>
        obtain⟨rfl,hs10⟩:=hcut
        clear tA x0 x2 x3 x4 x5 x6 x7 x17 x18 x19 z0 z1 z2 z3 z4 z5 z6 z7 z8 b0 bf
        have tA:=BO hs10
        clear hs10
        obtain⟨x0,x2,x3,x4,x5,x6,x7,x17,x18,x19⟩:=bK (tA.out.blk 1 rfl)
        obtain⟨z0,z1,z2,z3,z4,z5,z6,z7,z8⟩:=de (tA.out.blk 1 rfl)
        obtain⟨b0,bf⟩:=au (tA.out.blk 0 rfl)
        rw [tH.out.kind]at x0
        rw [tH.out.key]at x3 x4 x5
        rw [tH.out.save]at x17
        rw [tH.out.cursor]at x18
        rcases kM s.kind with hk|hk|hk|hk|hk|hk|hk|hk|hk|hk|hk|hk|hk|hk|hk
        ·rw [hk]at x0
         by_cases h1:1≤s.save
         ·by_cases h2:s.save≤3
          ·go_wp2_with fail
           refine bodyPost_ret (results_tmp rfl _ _ _) rfl ?_
           exact⟨by rw [HR.out,HE.out];simp [okK,cj,hk,h1,h2],tA.out.end_ (PH.le.refl _)⟩
          ·go_wp2_with fail
           refine bodyPost_ret (results_tmp rfl _ _ _) rfl ?_
           exact⟨by rw [HR.out,HE.out];simp [okK,cj,hk,h1,h2],tA.out.end_ (PH.le.refl _)⟩
         ·go_wp2_with fail
          refine bodyPost_ret (results_tmp rfl _ _ _) rfl ?_
          exact⟨by rw [HR.out,HE.out];simp [okK,cj,hk];omega,tA.out.end_ (PH.le.refl _)⟩
        ·rw [hk]at x0
         by_cases h1:1≤s.save
         ·by_cases h2:s.save≤3
          ·go_wp2_with fail
           refine bodyPost_ret (results_tmp rfl _ _ _) rfl ?_
           exact⟨by rw [HR.out,HE.out];simp [okK,cj,hk,h1,h2],tA.out.end_ (PH.le.refl _)⟩
          ·go_wp2_with fail
           refine bodyPost_ret (results_tmp rfl _ _ _) rfl ?_
           exact⟨by rw [HR.out,HE.out];simp [okK,cj,hk,h1,h2],tA.out.end_ (PH.le.refl _)⟩
         ·go_wp2_with fail
          refine bodyPost_ret (results_tmp rfl _ _ _) rfl ?_
          exact⟨by rw [HR.out,HE.out];simp [okK,cj,hk];omega,tA.out.end_ (PH.le.refl _)⟩
        ·rw [hk]at x0
         cases kb<;>(go_wp2_with fail;refine bodyPost_ret (results_tmp rfl _ _ _) rfl ?_;exact⟨by rw [HR.out,HE.out];simp [okK,cj,hk],tA.out.end_ (PH.le.refl _)⟩)
        ·rw [hk]at x0
         have vU:=BO (kG (uX.out.rd tA.out) (RdP.rd tH.out.row.1 tA.out))
         rw [wN.out]at vU
         rw [wN.out]at x6
         cases hft:bD c s.row<;>rw [hft]at vU
         ·go_wp2_with (go_at_call 35;refine vU.out.mono ?_;rintro e8 w8 ⟨rfl,hk8⟩;have yp:=BO (tA.out.kept hk8);clear hk8 vU tA x0 x2 x3 x4 x5 x6 x7 x17 x18 x19 z0 z1 z2 z3 z4 z5 z6 z7 z8 b0 bf)
          refine bodyPost_ret (results_tmp rfl _ _ _) rfl ?_
          exact⟨by rw [HR.out,HE.out];simp [okK,cj,hk,hft],yp.out.end_ (PH.le.refl _)⟩
         ·go_wp2_with (go_at_call 35;refine vU.out.mono ?_;rintro e8 w8 ⟨rfl,hk8⟩;have yp:=BO (tA.out.kept hk8);clear hk8 vU tA x0 x2 x3 x4 x5 x6 x7 x17 x18 x19 z0 z1 z2 z3 z4 z5 z6 z7 z8 b0 bf)
          refine bodyPost_ret (results_tmp rfl _ _ _) rfl ?_
          exact⟨by rw [HR.out,HE.out];simp [okK,cj,hk,hft],yp.out.end_ (PH.le.refl _)⟩
        ·rw [hk]at x0
         cases kb<;>cases sb<;>(go_wp2_with fail;refine bodyPost_ret (results_tmp rfl _ _ _) rfl ?_;exact⟨by rw [HR.out,HE.out];simp [okK,cj,hk],tA.out.end_ (PH.le.refl _)⟩)
        ·rw [hk]at x0
         cases kb<;>(go_wp2_with fail;refine bodyPost_ret (results_tmp rfl _ _ _) rfl ?_;exact⟨by rw [HR.out,HE.out];simp [okK,cj,hk],tA.out.end_ (PH.le.refl _)⟩)
        ·rw [hk]at x0
         cases pb<;>(go_wp2_with fail;refine bodyPost_ret (results_tmp rfl _ _ _) rfl ?_;exact⟨by rw [HR.out,HE.out];simp [okK,cj,hk],tA.out.end_ (PH.le.refl _)⟩)
        ·rw [hk]at x0
         cases pb<;>cases sb<;>(go_wp2_with fail;refine bodyPost_ret (results_tmp rfl _ _ _) rfl ?_;exact⟨by rw [HR.out,HE.out];simp [okK,cj,hk],tA.out.end_ (PH.le.refl _)⟩)
        ·rw [hk]at x0
         cases pb<;>(go_wp2_with fail;refine bodyPost_ret (results_tmp rfl _ _ _) rfl ?_;exact⟨by rw [HR.out,HE.out];simp [okK,cj,hk],tA.out.end_ (PH.le.refl _)⟩)
        ·rw [hk]at x0
         cases pb
         ·go_wp2_with fail
          refine bodyPost_ret (results_tmp rfl _ _ _) rfl ?_
          exact⟨by rw [HR.out,HE.out];simp [okK,cj,hk],tA.out.end_ (PH.le.refl _)⟩
         ·cases cb
          ·go_wp2_with fail
           refine bodyPost_ret (results_tmp rfl _ _ _) rfl ?_
           exact⟨by rw [HR.out,HE.out];simp [okK,cj,hk],tA.out.end_ (PH.le.refl _)⟩
          ·have uv:=BO (oA e.pe tH.out.subs (by rw [tH.out.pred];exact zN.out) tA.out)
           rw [tH.out.pred]at uv
           by_cases h13:s.pred.nodes.length≤13
           ·have h13':((s.pred.nodes.length:Int)≤13):=by omega
            generalize hnl:(s.pred.nodes.length:Int)=nl at uv h13'
            clear hnl
            go_wp2_with (go_at_call 36;refine uv.out.mono ?_;rintro e8 w8 ⟨rfl,hs8⟩;have yp:=BO hs8;clear hs8 uv tA x0 x2 x3 x4 x5 x6 x7 x17 x18 x19 z0 z1 z2 z3 z4 z5 z6 z7 z8 b0 bf)
            refine bodyPost_ret (results_tmp rfl _ _ _) rfl ?_
            exact⟨by rw [HR.out,HE.out];simp [okK,cj,hk,h13],yp.out.end_ (PH.le.refl _)⟩
           ·have h13':((s.pred.nodes.length:Int)≤13)=False:=by simp;omega
            generalize hnl:(s.pred.nodes.length:Int)=nl at uv h13'
            clear hnl
            go_wp2_with (go_at_call 36;refine uv.out.mono ?_;rintro e8 w8 ⟨rfl,hs8⟩;have yp:=BO hs8;clear hs8 uv tA x0 x2 x3 x4 x5 x6 x7 x17 x18 x19 z0 z1 z2 z3 z4 z5 z6 z7 z8 b0 bf)
            refine bodyPost_ret (results_tmp rfl _ _ _) rfl ?_
            exact⟨by rw [HR.out,HE.out];simp [okK,cj,hk,h13],yp.out.end_ (PH.le.refl _)⟩
        ·rw [hk]at x0
         cases cb<;>(go_wp2_with fail;refine bodyPost_ret (results_tmp rfl _ _ _) rfl ?_;exact⟨by rw [HR.out,HE.out];simp [okK,cj,hk],tA.out.end_ (PH.le.refl _)⟩)
        ·rw [hk]at x0
         cases cb<;>(go_wp2_with fail;refine bodyPost_ret (results_tmp rfl _ _ _) rfl ?_;exact⟨by rw [HR.out,HE.out];simp [okK,cj,hk],tA.out.end_ (PH.le.refl _)⟩)
        ·rw [hk]at x0
         cases cb<;>(go_wp2_with fail;refine bodyPost_ret (results_tmp rfl _ _ _) rfl ?_;exact⟨by rw [HR.out,HE.out];simp [okK,cj,hk],tA.out.end_ (PH.le.refl _)⟩)
        ·rw [hk]at x0
         cases cb<;>(go_wp2_with fail;refine bodyPost_ret (results_tmp rfl _ _ _) rfl ?_;exact⟨by rw [HR.out,HE.out];simp [okK,cj,hk],tA.out.end_ (PH.le.refl _)⟩)
        ·obtain⟨k4,k5,k6,k7,k8,k9,k10,k11,k12,k13,k14,k15,k16,k17⟩:=hk
         have hk:¬(14≤s.kind∧s.kind≤17):=by omega
         go_wp2_with fail
         refine bodyPost_ret (results_tmp rfl _ _ _) rfl ?_
         exact⟨by rw [HR.out,HE.out];simp [okK,cj,hk,k4,k5,k6,k7,k8,k9,k10,k11,k12,k13],tA.out.end_ (PH.le.refl _)⟩
end Go.Proofs.YtdobimafhbfkhaaGreat
