/- Whether a statement may be (oracle.Check). -/
import Derived.Test.YtdobimafhbfkhaaGreatOT38
import Derived.Test.YtdobimafhbfkhaaGreatOT40
import Derived.Test.YtdobimafhbfkhaaGreatOT42
import Derived.Deep.DeepCutAuto
set_option maxHeartbeats 64000000
namespace Go.Proofs.YtdobimafhbfkhaaGreat
open Go.ChangeShapes Go.WideShapes Go.ChangeAt Go.RowKit
set_option maxRecDepth 100000
set_option linter.unusedSimpArgs false
def okK (kind:Int)(key holds sets cursor save fits small:Bool):Bool :=
 if kind=4∨kind=5 then save else
 if kind=6∨kind=9 then key else
 if kind=7 then fits else
 if kind=8 then key&&sets else
 if kind=10∨kind=12 then holds else
 if kind=11 then holds&&sets else
 if kind=13 then holds&&cursor&&small else
 if 14≤kind∧kind≤17 then cursor else false
def bN (s:StmM):Bool:=decide (1≤s.cursor)&&decide (s.cursor≤2)
def aV (s:StmM):Bool:=decide (1≤s.save)&&decide (s.save≤3)
theorem mE {cols:List (List Bool)}{s:StmM}(h:(decide (0≤s.table)&&decide (s.table<(cols.length:Int))&&cu (cols.getD s.table.toNat []))=false):okS cols s=okK s.kind false false false (bN s) (aV s) false false:=by
 unfold okS okK bN aV
 simp only [h,Bool.false_and]
theorem mN {cols:List (List Bool)}{s:StmM}{i:Nat}{c:List Bool}(ht:s.table=(i:Int))(hc:cols[i]?=some c)(hm:cu c=true):okS cols s=okK s.kind (am s.key&&decide (s.key.t=c.getD 0 false)) (cB c s.pred) (cT c s.sets) (bN s) (aV s) (bw c s.row) (decide (s.pred.nodes.length≤13)):=by
 have hlt:=(List.getElem?_eq_some_iff.1 hc).1
 have h1:cols.getD s.table.toNat []=c:=by rw [ht,Int.toNat_natCast,List.getD_eq_getElem?_getD,hc];rfl
 have h2:decide (0≤s.table)=true:=decide_eq_true (by omega)
 have h3:decide (s.table<(cols.length:Int))=true:=decide_eq_true (by omega)
 unfold okS okK bN aV
 simp only [h1,h2,h3,hm,Bool.true_and]
theorem fH (k:Int):k=4∨k=5∨k=6∨k=7∨k=8∨k=9∨k=10∨k=11∨k=12∨k=13∨k=14∨k=15∨k=16∨k=17∨(k≠4∧k≠5∧k≠6∧k≠7∧k≠8∧k≠9∧k≠10∧k≠11∧k≠12∧k≠13∧k≠14∧k≠15∧k≠16∧k≠17):=by omega
theorem nK {w:World}{tv:Value}{cols:List (List Bool)}{e:StmE}{s:StmM}(ht:TblsAt (aD w) tv cols)(hs:StmOk (aD w) e s)(hn:s.pred.nodes.length≤1000000) :
  Calls Tryz.prog 12 #[tv,.agg e.cells.toArray] w fun r w'=>r = .returned (.int .i64 (if okS cols s then 0 else 167))∧Kept (fun _=>False) w w':=by
 obtain⟨W0,hW0,h0⟩:∃W,W=(w.alloc (.cells e.cells.toArray tSt)).alloc (.cells #[.slice none 0 0] aX)∧Sat w (aD w) W [blk (w.heap.size+1) #[.slice none 0 0] aX,blk w.heap.size e.cells.toArray tSt]:=by
  have h1:=((Sat.start w).alloc e.cells.toArray tSt).alloc #[.slice none 0 0] aX
  rw [World.size_alloc]at h1
  exact⟨_,rfl,h1⟩
 have uI:=CM hW0
 obtain⟨us,hu1,hu2,hu3,hu4⟩:=ht
 obtain⟨ta,tc,rfl⟩:=hu3.shape
 have HU:=CM (And.intro hu1 hu4)
 have xj:=CM hu3
 have uz:=CM hs
 have ye:=CM hn
 have uv:=CM h0
 obtain⟨rr,hrr⟩:∃rr:Int,rr=(if okS cols s then 0 else 167):=⟨_,rfl⟩
 rw [←hrr]
 have HR:=CM hrr
 generalize hTN:cols.length=TN at *
 have xu:=CM hTN
 clear hW0 hu1 hu2 hu3 hu4 hs hn h0 hrr hTN
 go_enter Tryz.func12,Tryz.ntmps12
 go_upto_region 2 with fail
 rw [←uI.out]
 clear uI
 generalize w.heap.size+1=bt at uv ⊢
 generalize w.heap.size=bs at uv ⊢
 obtain⟨x0,x2,x3,x4,x5,x6,x7,x17,x18,x19⟩:=bj (uv.out.blk 1 rfl)
 obtain⟨z0,z1,z2,z3,z4,z5,z6,z7,z8⟩:=bX (uv.out.blk 1 rfl)
 obtain⟨b0,bf⟩:=aq (uv.out.blk 0 rfl)
 rw [uz.out.kind]at x0
 rw [uz.out.table]at x2
 rw [uz.out.key]at x3 x4 x5
 rw [uz.out.save]at x17
 rw [uz.out.cursor]at x18
 have wN:=CM (show e.row.v = .slice e.row.ro e.row.rn e.row.rc from rfl)
 obtain⟨isb,his⟩:∃isb:Bool,isb=(decide (0≤s.table)&&decide (s.table<(TN:Int))):=⟨_,rfl⟩
 have wB:=CM his
 clear his
 go_cut [6] (fun iv wx=>iv = .bool isb∧wx=W0)
 case first =>
  by_cases hr1:0≤s.table
  ·by_cases hr2:s.table<(TN:Int)
   ·have hb:isb=true:=by rw [wB.out,decide_eq_true hr1,decide_eq_true hr2];rfl
    go_wp2_with fail
    go_meet
    exact⟨by rw [hb],rfl⟩
   ·have hb:isb=false:=by rw [wB.out,decide_eq_true hr1,decide_eq_false hr2];rfl
    go_wp2_with fail
    go_meet
    exact⟨by rw [hb],rfl⟩
  ·have hb:isb=false:=by rw [wB.out,decide_eq_false hr1];rfl
   go_wp2_with fail
   go_meet
   exact⟨by rw [hb],rfl⟩
 case rest =>
  obtain⟨rfl,rfl⟩:=hcut
  go_upto_if 22 with fail
  go_cut [6] (fun iv wx=>∃(jb:Bool) (ca:Option Addr) (cn cc:Nat),iv = .bool jb∧Sat w (aD w) wx [blk bt #[.slice ca cn cc] aX,blk bs e.cells.toArray tSt]∧((jb=false∧okS cols s=okK s.kind false false false (bN s) (aV s) false false)∨(jb=true∧∃(i:Nat) (c:List Bool),s.table=(i:Int)∧cols[i]?=some c∧cu c=true∧cn=c.length∧RdP (aD w) 1 (.slice ca cn cc) c.length (c.flatMap de))))
  case first =>
   cases isb with
   | false =>
    have HE:=CM (show okS cols s=okK s.kind false false false (bN s) (aV s) false false from mE (by rw [xu.out,←wB.out];rfl))
    go_wp2_with fail
    go_meet
    exact⟨false,none,0,0,rfl,uv.out,.inl ⟨rfl,HE.out⟩⟩
   | true =>
    have hr:0≤s.table∧s.table<(TN:Int):=by
     have h1:=wB.out.symm
     simp only [Bool.and_eq_true,decide_eq_true_eq]at h1
     exact h1
    obtain⟨hr1,hr2⟩:=hr
    obtain⟨i,hi⟩:∃i:Nat,s.table=(i:Int):=⟨s.table.toNat,by omega⟩
    rw [hi]at x2 hr2
    have hiN:i<TN:=by omega
    obtain⟨c,hc⟩:∃c,cols[i]?=some c:=⟨cols[i]'(by rw [xu.out];exact hiN),List.getElem?_eq_getElem _⟩
    obtain⟨cv,hcv⟩:∃cv,us[i]?=some cv:=⟨us[i]'(by rw [HU.out.1];exact hiN),List.getElem?_eq_getElem _⟩
    have hcol:=HU.out.2 i cv c hcv hc
    obtain⟨ca,cc,rfl⟩:=hcol.shape
    obtain⟨tg,tof,rfl,htc⟩:∃tg tof,ta=some ⟨tg,tof,none⟩∧wc.cell? ⟨tg,tof+i,none⟩=some (.slice ca c.length cc):=by
     obtain⟨_,_,ao,cap,hv,_,_,_,hcell⟩:=xj.out.rd uv.out
     cases hv
     rcases hcell with h0|⟨g,og,hg,hcc⟩
     ·omega
     ·exact⟨g,og,hg,hcc i _ hcv⟩
    have uk:=CM (uv.out.set 0 (.slice ca c.length cc))
    have uU:=CM hcol
    have HC:=CM hc
    have HI:=CM hi
    clear hc hcv hcol hr1 hi
    go_upto_region 5 with fail
    obtain⟨W1,hW1⟩:∃W,W=wc.setCell ⟨bt,0,none⟩ (.slice ca c.length cc):=⟨_,rfl⟩
    rw [←hW1]at uk ⊢
    have uD:=CM (show Sat w (aD w) W1 [blk bt #[.slice ca c.length cc] aX,blk bs e.cells.toArray tSt]from uk.out)
    clear hW1 uk uv x0 x2 x3 x4 x5 x6 x7 x17 x18 x19 z0 z1 z2 z3 z4 z5 z6 z7 z8 b0 bf htc
    have vj:=CM (fp (uU.out.rd uD.out))
    obtain⟨b0,bf⟩:=aq (uD.out.blk 0 rfl)
    cases hm:cu c with
    | false =>
     rw [show chk c=1 by unfold chk;rw [hm];rfl]at vj
     have HE:=CM (show okS cols s=okK s.kind false false false (bN s) (aV s) false false from mE (by
      rw [HI.out,Int.toNat_natCast,List.getD_eq_getElem?_getD,HC.out]
      show(_&&cu c)=false
      rw [hm,Bool.and_false]))
     clear hm
     go_wp2_with (go_at_call 31;refine vj.out.mono ?_;rintro e1 w1 ⟨rfl,hk1⟩;have HSB:=CM (uD.out.kept hk1);clear hk1 vj uD b0 bf)
     go_meet
     exact⟨false,ca,c.length,cc,rfl,HSB.out,.inl ⟨rfl,HE.out⟩⟩
    | true =>
     rw [show chk c=0 by unfold chk;rw [hm];rfl]at vj
     have HM:=CM hm
     clear hm
     go_wp2_with (go_at_call 31;refine vj.out.mono ?_;rintro e1 w1 ⟨rfl,hk1⟩;have HSB:=CM (uD.out.kept hk1);clear hk1 vj uD b0 bf)
     go_meet
     exact⟨true,ca,c.length,cc,rfl,HSB.out,.inr ⟨rfl,i,c,HI.out,HC.out,HM.out,rfl,uU.out⟩⟩
  case rest =>
   obtain⟨jb,ca,cn,cc,rfl,hs,hj⟩:=hcut
   have HSB:=CM hs
   clear hs uv x0 x2 x3 x4 x5 x6 x7 x17 x18 x19 z0 z1 z2 z3 z4 z5 z6 z7 z8 b0 bf
   obtain⟨x0,x2,x3,x4,x5,x6,x7,x17,x18,x19⟩:=bj (HSB.out.blk 1 rfl)
   obtain⟨z0,z1,z2,z3,z4,z5,z6,z7,z8⟩:=bX (HSB.out.blk 1 rfl)
   obtain⟨b0,bf⟩:=aq (HSB.out.blk 0 rfl)
   rw [uz.out.kind]at x0
   rw [uz.out.key]at x3 x4 x5
   rw [uz.out.save]at x17
   rw [uz.out.cursor]at x18
   rcases hj with ⟨rfl,he⟩|⟨rfl,i,c,hi,hc,hm,rfl,hcol⟩
   ·have HE:=CM he
    clear he
    go_upto_region 6 with fail
    refine af [(0,false,4),(1,false,4),(2,false,4),(3,false,4),(4,true,0),(5,false,999),(6,false,999),(7,false,999),(8,false,999),(9,false,999),(10,false,999),(11,false,999),(12,false,999),(13,false,999),(14,false,999),(15,false,999),(16,false,999)] (by kernel_rfl) (by kernel_rfl) ?_
    iterate 2 (refine ae rfl rfl (fun K hK=>?_);go_simp;refine hK _ ?_;clear hK K)
    iterate 2 (first|(refine al rfl rfl ?_;simp only [Act.put,CO,CP,CQ,CR,CT,CU])|(refine ai rfl rfl (fun K hK=>?_);go_simp;refine hK _ ?_;clear hK K))
    refine ag rfl ?_
    refine bW rfl ?_
    simp only [Act.put,CO,CP,CQ]
    refine wpList_nil ?_
    refine And.intro ?_ ?_
    ·go_simp
    iterate 2 (refine ae rfl rfl (fun K hK=>?_);go_simp;refine hK _ ?_;clear hK K)
    iterate 8 (first|(refine al rfl rfl ?_;simp only [Act.put,CO,CP,CQ,CR,CT,CU])|(refine ai rfl rfl (fun K hK=>?_);go_simp;refine hK _ ?_;clear hK K))
    iterate 2 (refine ae rfl rfl (fun K hK=>?_);go_simp;refine hK _ ?_;clear hK K)
    refine ah ?_
    have uo:=CM (HSB.out.kept (Kept.refl (fun _=>False) _).drew)
    clear HSB x0 x2 x3 x4 x5 x6 x7 x17 x18 x19 z0 z1 z2 z3 z4 z5 z6 z7 z8 b0 bf
    obtain⟨x0,x2,x3,x4,x5,x6,x7,x17,x18,x19⟩:=bj (uo.out.blk 1 rfl)
    obtain⟨z0,z1,z2,z3,z4,z5,z6,z7,z8⟩:=bX (uo.out.blk 1 rfl)
    obtain⟨b0,bf⟩:=aq (uo.out.blk 0 rfl)
    rw [uz.out.kind]at x0
    rw [uz.out.key]at x3 x4 x5
    rw [uz.out.save]at x17
    rw [uz.out.cursor]at x18
    obtain⟨cb,hcb⟩:∃cb,bN s=cb:=⟨_,rfl⟩
    rw [hcb]at HE
    have zu:=CM (show cb=(decide (1≤s.cursor)&&decide (s.cursor≤2))from hcb.symm)
    clear hcb
    go_upto_region 9 with fail
    go_cut [10] (fun dv wx=>dv = .bool cb∧Sat w (aD w) wx [blk bt #[.slice ca cn cc] aX,blk bs e.cells.toArray tSt])
    case first =>
     by_cases h1:1≤s.cursor
     ·by_cases h2:s.cursor≤2
      ·have hb:cb=true:=by rw [zu.out,decide_eq_true h1,decide_eq_true h2];rfl
       go_wp2_with fail
       go_meet
       exact⟨by rw [hb],uo.out⟩
      ·have hb:cb=false:=by rw [zu.out,decide_eq_true h1,decide_eq_false h2];rfl
       go_wp2_with fail
       go_meet
       exact⟨by rw [hb],uo.out⟩
     ·have hb:cb=false:=by rw [zu.out,decide_eq_false h1];rfl
      go_wp2_with fail
      go_meet
      exact⟨by rw [hb],uo.out⟩
    case rest =>
     obtain⟨rfl,hs10⟩:=hcut
     clear uo x0 x2 x3 x4 x5 x6 x7 x17 x18 x19 z0 z1 z2 z3 z4 z5 z6 z7 z8 b0 bf
     have uo:=CM hs10
     clear hs10
     obtain⟨x0,x2,x3,x4,x5,x6,x7,x17,x18,x19⟩:=bj (uo.out.blk 1 rfl)
     obtain⟨z0,z1,z2,z3,z4,z5,z6,z7,z8⟩:=bX (uo.out.blk 1 rfl)
     obtain⟨b0,bf⟩:=aq (uo.out.blk 0 rfl)
     rw [uz.out.kind]at x0
     rw [uz.out.key]at x3 x4 x5
     rw [uz.out.save]at x17
     rw [uz.out.cursor]at x18
     rcases fH s.kind with hk|hk|hk|hk|hk|hk|hk|hk|hk|hk|hk|hk|hk|hk|hk
     ·rw [hk]at x0
      by_cases h1:1≤s.save
      ·by_cases h2:s.save≤3
       ·go_wp2_with fail
        refine bodyPost_ret (results_tmp rfl _ _ _) rfl ?_
        exact⟨by rw [HR.out,HE.out];simp [okK,aV,hk,h1,h2],uo.out.end_ (PH.le.refl _)⟩
       ·go_wp2_with fail
        refine bodyPost_ret (results_tmp rfl _ _ _) rfl ?_
        exact⟨by rw [HR.out,HE.out];simp [okK,aV,hk,h1,h2],uo.out.end_ (PH.le.refl _)⟩
      ·go_wp2_with fail
       refine bodyPost_ret (results_tmp rfl _ _ _) rfl ?_
       exact⟨by rw [HR.out,HE.out];simp [okK,aV,hk];omega,uo.out.end_ (PH.le.refl _)⟩
     ·rw [hk]at x0
      by_cases h1:1≤s.save
      ·by_cases h2:s.save≤3
       ·go_wp2_with fail
        refine bodyPost_ret (results_tmp rfl _ _ _) rfl ?_
        exact⟨by rw [HR.out,HE.out];simp [okK,aV,hk,h1,h2],uo.out.end_ (PH.le.refl _)⟩
       ·go_wp2_with fail
        refine bodyPost_ret (results_tmp rfl _ _ _) rfl ?_
        exact⟨by rw [HR.out,HE.out];simp [okK,aV,hk,h1,h2],uo.out.end_ (PH.le.refl _)⟩
      ·go_wp2_with fail
       refine bodyPost_ret (results_tmp rfl _ _ _) rfl ?_
       exact⟨by rw [HR.out,HE.out];simp [okK,aV,hk];omega,uo.out.end_ (PH.le.refl _)⟩
     ·rw [hk]at x0
      go_wp2_with fail
      refine bodyPost_ret (results_tmp rfl _ _ _) rfl ?_
      exact⟨by rw [HR.out,HE.out];simp [okK,aV,hk],uo.out.end_ (PH.le.refl _)⟩
     ·rw [hk]at x0
      go_wp2_with fail
      refine bodyPost_ret (results_tmp rfl _ _ _) rfl ?_
      exact⟨by rw [HR.out,HE.out];simp [okK,aV,hk],uo.out.end_ (PH.le.refl _)⟩
     ·rw [hk]at x0
      go_wp2_with fail
      refine bodyPost_ret (results_tmp rfl _ _ _) rfl ?_
      exact⟨by rw [HR.out,HE.out];simp [okK,aV,hk],uo.out.end_ (PH.le.refl _)⟩
     ·rw [hk]at x0
      go_wp2_with fail
      refine bodyPost_ret (results_tmp rfl _ _ _) rfl ?_
      exact⟨by rw [HR.out,HE.out];simp [okK,aV,hk],uo.out.end_ (PH.le.refl _)⟩
     ·rw [hk]at x0
      go_wp2_with fail
      refine bodyPost_ret (results_tmp rfl _ _ _) rfl ?_
      exact⟨by rw [HR.out,HE.out];simp [okK,aV,hk],uo.out.end_ (PH.le.refl _)⟩
     ·rw [hk]at x0
      go_wp2_with fail
      refine bodyPost_ret (results_tmp rfl _ _ _) rfl ?_
      exact⟨by rw [HR.out,HE.out];simp [okK,aV,hk],uo.out.end_ (PH.le.refl _)⟩
     ·rw [hk]at x0
      go_wp2_with fail
      refine bodyPost_ret (results_tmp rfl _ _ _) rfl ?_
      exact⟨by rw [HR.out,HE.out];simp [okK,aV,hk],uo.out.end_ (PH.le.refl _)⟩
     ·rw [hk]at x0
      go_wp2_with fail
      refine bodyPost_ret (results_tmp rfl _ _ _) rfl ?_
      exact⟨by rw [HR.out,HE.out];simp [okK,aV,hk],uo.out.end_ (PH.le.refl _)⟩
     ·rw [hk]at x0
      cases cb<;>(go_wp2_with fail;refine bodyPost_ret (results_tmp rfl _ _ _) rfl ?_;exact⟨by rw [HR.out,HE.out];simp [okK,aV,hk],uo.out.end_ (PH.le.refl _)⟩)
     ·rw [hk]at x0
      cases cb<;>(go_wp2_with fail;refine bodyPost_ret (results_tmp rfl _ _ _) rfl ?_;exact⟨by rw [HR.out,HE.out];simp [okK,aV,hk],uo.out.end_ (PH.le.refl _)⟩)
     ·rw [hk]at x0
      cases cb<;>(go_wp2_with fail;refine bodyPost_ret (results_tmp rfl _ _ _) rfl ?_;exact⟨by rw [HR.out,HE.out];simp [okK,aV,hk],uo.out.end_ (PH.le.refl _)⟩)
     ·rw [hk]at x0
      cases cb<;>(go_wp2_with fail;refine bodyPost_ret (results_tmp rfl _ _ _) rfl ?_;exact⟨by rw [HR.out,HE.out];simp [okK,aV,hk],uo.out.end_ (PH.le.refl _)⟩)
     ·obtain⟨k4,k5,k6,k7,k8,k9,k10,k11,k12,k13,k14,k15,k16,k17⟩:=hk
      have hk:¬(14≤s.kind∧s.kind≤17):=by omega
      go_wp2_with fail
      refine bodyPost_ret (results_tmp rfl _ _ _) rfl ?_
      exact⟨by rw [HR.out,HE.out];simp [okK,aV,hk,k4,k5,k6,k7,k8,k9,k10,k11,k12,k13],uo.out.end_ (PH.le.refl _)⟩
   ·have HE:=CM (show okS cols s=_ from mN hi hc hm)
    have HM:=CM hm
    have uU:=CM hcol
    obtain⟨c0,hc0⟩:∃c0,c[0]?=some c0:=⟨c[0]'(by unfold cu at hm;simp at hm;omega),List.getElem?_eq_getElem _⟩
    have yi:=CM (show c.getD 0 false=c0 by rw [List.getD_eq_getElem?_getD,hc0];rfl)
    rw [yi.out]at HE
    have hcl:0<c.length:=(List.getElem?_eq_some_iff.1 hc0).1
    have hcl2:(0:Int)<(c.length:Int):=by omega
    obtain⟨cg,cof,rfl,hcz⟩:∃cg cof,ca=some ⟨cg,cof,none⟩∧∀W,Sat w (aD w) W [blk bt #[.slice ca c.length cc] aX,blk bs e.cells.toArray tSt]→W.cell? ⟨cg,cof,none⟩=some (.bool c0):=by
     obtain⟨_,_,ao,cap,hv,_,_,_,hcell⟩:=hcol
     cases hv
     rcases hcell with h0|⟨g,og,rfl,hcc⟩
     ·omega
     ·refine⟨g,og,rfl,fun W hW=>?_⟩
      obtain⟨_,_,ao,cap,hv,_,_,_,hcell2⟩:=uU.out.rd hW
      cases hv
      rcases hcell2 with h0|⟨g2,og2,hg2,hcc2⟩
      ·omega
      ·cases hg2
       exact hcc2 0 _ (by cases c with|nil=>cases hc0|cons a c=>simp at hc0;subst hc0;rfl)
    have B2:=CM hcz
    have hcz0:=hcz _ HSB.out
    obtain⟨kb,hkb⟩:∃kb,(am s.key&&decide (s.key.t=c0))=kb:=⟨_,rfl⟩
    rw [hkb]at HE
    have yP:=CM hkb
    clear hi hc hm hcol hc0 hcz hkb
    go_upto_region 6 with fail
    go_cut [7] (fun kv wx=>kv = .bool kb∧Sat w (aD w) wx [blk bt #[.slice (some ⟨cg,cof,none⟩) c.length cc] aX,blk bs e.cells.toArray tSt])
    case first =>
     have uY:=CM (aK s.key wc.drew)
     cases hvr:am s.key with
     | false =>
      rw [hvr]at uY
      have vP:=CM (show kb=false by rw [←yP.out,hvr];rfl)
      clear hvr
      refine af [(0,false,4),(1,false,4),(2,false,4),(3,false,4),(4,true,0),(5,false,999),(6,false,999),(7,false,999),(8,false,999),(9,false,999),(10,false,999),(11,false,999),(12,false,999),(13,false,999),(14,false,999),(15,false,999),(16,false,999)] (by kernel_rfl) (by kernel_rfl) ?_
      iterate 2 (refine ae rfl rfl (fun K hK=>?_);go_simp;refine hK _ ?_;clear hK K)
      iterate 2 (first|(refine al rfl rfl ?_;simp only [Act.put,CO,CP,CQ,CR,CT,CU])|(refine ai rfl rfl (fun K hK=>?_);go_simp;refine hK _ ?_;clear hK K))
      refine ag rfl ?_
      refine au rfl (fun K hK=>?_)
      go_simp
      refine uY.out.mono ?_
      rintro e2 w2 ⟨rfl,hk2⟩
      have ve:=CM ((HSB.out.kept (Kept.refl (fun _=>False) _).drew).kept hk2)
      clear hk2 uY HSB x0 x2 x3 x4 x5 x6 x7 x17 x18 x19 z0 z1 z2 z3 z4 z5 z6 z7 z8 b0 bf hcz0
      obtain⟨x0,x2,x3,x4,x5,x6,x7,x17,x18,x19⟩:=bj (ve.out.blk 1 rfl)
      obtain⟨z0,z1,z2,z3,z4,z5,z6,z7,z8⟩:=bX (ve.out.blk 1 rfl)
      obtain⟨b0,bf⟩:=aq (ve.out.blk 0 rfl)
      rw [uz.out.kind]at x0
      rw [uz.out.key]at x3 x4 x5
      rw [uz.out.save]at x17
      rw [uz.out.cursor]at x18
      have hcz0:=B2.out w2 ve.out
      refine hK _ _ ?_
      clear hK K
      refine wpList_nil ?_
      refine And.intro ?_ ?_
      ·go_simp
      iterate 2 (refine ae rfl rfl (fun K hK=>?_);go_simp;refine hK _ ?_;clear hK K)
      iterate 8 (first|(refine al rfl rfl ?_;simp only [Act.put,CO,CP,CQ,CR,CT,CU])|(refine ai rfl rfl (fun K hK=>?_);go_simp;refine hK _ ?_;clear hK K))
      iterate 2 (refine ae rfl rfl (fun K hK=>?_);go_simp;refine hK _ ?_;clear hK K)
      refine ah ?_
      go_wp2_with fail
      go_meet
      exact⟨by rw [vP.out],ve.out⟩
     | true =>
      rw [hvr]at uY
      have vP:=CM (show kb=(s.key.t == c0) by rw [←yP.out,hvr];rfl)
      clear hvr
      refine af [(0,false,4),(1,false,4),(2,false,4),(3,false,4),(4,true,0),(5,false,999),(6,false,999),(7,false,999),(8,false,999),(9,false,999),(10,false,999),(11,false,999),(12,false,999),(13,false,999),(14,false,999),(15,false,999),(16,false,999)] (by kernel_rfl) (by kernel_rfl) ?_
      iterate 2 (refine ae rfl rfl (fun K hK=>?_);go_simp;refine hK _ ?_;clear hK K)
      iterate 2 (first|(refine al rfl rfl ?_;simp only [Act.put,CO,CP,CQ,CR,CT,CU])|(refine ai rfl rfl (fun K hK=>?_);go_simp;refine hK _ ?_;clear hK K))
      refine ag rfl ?_
      refine au rfl (fun K hK=>?_)
      go_simp
      refine uY.out.mono ?_
      rintro e2 w2 ⟨rfl,hk2⟩
      have ve:=CM ((HSB.out.kept (Kept.refl (fun _=>False) _).drew).kept hk2)
      clear hk2 uY HSB x0 x2 x3 x4 x5 x6 x7 x17 x18 x19 z0 z1 z2 z3 z4 z5 z6 z7 z8 b0 bf hcz0
      obtain⟨x0,x2,x3,x4,x5,x6,x7,x17,x18,x19⟩:=bj (ve.out.blk 1 rfl)
      obtain⟨z0,z1,z2,z3,z4,z5,z6,z7,z8⟩:=bX (ve.out.blk 1 rfl)
      obtain⟨b0,bf⟩:=aq (ve.out.blk 0 rfl)
      rw [uz.out.kind]at x0
      rw [uz.out.key]at x3 x4 x5
      rw [uz.out.save]at x17
      rw [uz.out.cursor]at x18
      have hcz0:=B2.out w2 ve.out
      refine hK _ _ ?_
      clear hK K
      refine wpList_nil ?_
      refine And.intro ?_ ?_
      ·go_simp
      iterate 2 (refine ae rfl rfl (fun K hK=>?_);go_simp;refine hK _ ?_;clear hK K)
      iterate 8 (first|(refine al rfl rfl ?_;simp only [Act.put,CO,CP,CQ,CR,CT,CU])|(refine ai rfl rfl (fun K hK=>?_);go_simp;refine hK _ ?_;clear hK K))
      iterate 2 (refine ae rfl rfl (fun K hK=>?_);go_simp;refine hK _ ?_;clear hK K)
      refine ah ?_
      go_wp2_with fail
      go_meet
      exact⟨by rw [vP.out],ve.out⟩
    case rest =>
     obtain⟨rfl,hs7⟩:=hcut
     have ve:=CM hs7
     clear hs7 HSB x0 x2 x3 x4 x5 x6 x7 x17 x18 x19 z0 z1 z2 z3 z4 z5 z6 z7 z8 b0 bf hcz0
     obtain⟨x0,x2,x3,x4,x5,x6,x7,x17,x18,x19⟩:=bj (ve.out.blk 1 rfl)
     obtain⟨z0,z1,z2,z3,z4,z5,z6,z7,z8⟩:=bX (ve.out.blk 1 rfl)
     obtain⟨b0,bf⟩:=aq (ve.out.blk 0 rfl)
     rw [uz.out.kind]at x0
     rw [uz.out.key]at x3 x4 x5
     rw [uz.out.save]at x17
     rw [uz.out.cursor]at x18
     obtain⟨pb,hpb⟩:∃pb,cB c s.pred=pb:=⟨_,rfl⟩
     rw [hpb]at HE
     have ww:=CM (pB e.pe uU.out HM.out uz.out.subs (by rw [uz.out.pred];exact ye.out) ve.out)
     rw [uz.out.pred,hpb]at ww
     clear hpb
     go_upto_region 7 with fail
     go_cut [8] (fun dv wx=>dv = .bool pb∧Sat w (aD w) wx [blk bt #[.slice (some ⟨cg,cof,none⟩) c.length cc] aX,blk bs e.cells.toArray tSt])
     case first =>
      cases pb
      ·go_wp2_with (go_at_call 33;refine ww.out.mono ?_;rintro e8 w8 ⟨rfl,hs8⟩;have vz:=CM hs8;clear hs8 ww ve x0 x2 x3 x4 x5 x6 x7 x17 x18 x19 z0 z1 z2 z3 z4 z5 z6 z7 z8 b0 bf)
       go_meet
       exact⟨rfl,vz.out⟩
      ·go_wp2_with (go_at_call 33;refine ww.out.mono ?_;rintro e8 w8 ⟨rfl,hs8⟩;have vz:=CM hs8;clear hs8 ww ve x0 x2 x3 x4 x5 x6 x7 x17 x18 x19 z0 z1 z2 z3 z4 z5 z6 z7 z8 b0 bf)
       go_meet
       exact⟨rfl,vz.out⟩
     case rest =>
      obtain⟨rfl,hs8⟩:=hcut
      have vz:=CM hs8
      clear hs8 ww ve x0 x2 x3 x4 x5 x6 x7 x17 x18 x19 z0 z1 z2 z3 z4 z5 z6 z7 z8 b0 bf
      obtain⟨x0,x2,x3,x4,x5,x6,x7,x17,x18,x19⟩:=bj (vz.out.blk 1 rfl)
      obtain⟨z0,z1,z2,z3,z4,z5,z6,z7,z8⟩:=bX (vz.out.blk 1 rfl)
      obtain⟨b0,bf⟩:=aq (vz.out.blk 0 rfl)
      rw [uz.out.kind]at x0
      rw [uz.out.key]at x3 x4 x5
      rw [uz.out.save]at x17
      rw [uz.out.cursor]at x18
      obtain⟨sb,hsb⟩:∃sb,cT c s.sets=sb:=⟨_,rfl⟩
      rw [hsb]at HE
      have HCS:=CM (fK (uU.out.rd vz.out) (RdP.rd uz.out.sets.1 vz.out))
      rw [show d5 c s.sets=if sb then 0 else 20 by unfold d5;rw [HM.out,hsb];rfl]at HCS
      obtain⟨sva,svn,svc,hsv⟩:∃a n c,e.sets.v = .slice a n c:=⟨_,_,_,rfl⟩
      rw [hsv]at HCS x7
      clear hsb hsv
      go_upto_region 8 with fail
      go_cut [9] (fun dv wx=>dv = .bool sb∧Sat w (aD w) wx [blk bt #[.slice (some ⟨cg,cof,none⟩) c.length cc] aX,blk bs e.cells.toArray tSt])
      case first =>
       cases sb
       ·go_wp2_with (go_at_call 34;refine HCS.out.mono ?_;rintro e9 w9 ⟨rfl,hk9⟩;have vT:=CM (vz.out.kept hk9);clear hk9 HCS vz x0 x2 x3 x4 x5 x6 x7 x17 x18 x19 z0 z1 z2 z3 z4 z5 z6 z7 z8 b0 bf)
        go_meet
        exact⟨rfl,vT.out⟩
       ·go_wp2_with (go_at_call 34;refine HCS.out.mono ?_;rintro e9 w9 ⟨rfl,hk9⟩;have vT:=CM (vz.out.kept hk9);clear hk9 HCS vz x0 x2 x3 x4 x5 x6 x7 x17 x18 x19 z0 z1 z2 z3 z4 z5 z6 z7 z8 b0 bf)
        go_meet
        exact⟨rfl,vT.out⟩
      case rest =>
       obtain⟨rfl,hs9⟩:=hcut
       have uo:=CM hs9
       clear hs9 HCS vz x0 x2 x3 x4 x5 x6 x7 x17 x18 x19 z0 z1 z2 z3 z4 z5 z6 z7 z8 b0 bf
       obtain⟨x0,x2,x3,x4,x5,x6,x7,x17,x18,x19⟩:=bj (uo.out.blk 1 rfl)
       obtain⟨z0,z1,z2,z3,z4,z5,z6,z7,z8⟩:=bX (uo.out.blk 1 rfl)
       obtain⟨b0,bf⟩:=aq (uo.out.blk 0 rfl)
       rw [uz.out.kind]at x0
       rw [uz.out.key]at x3 x4 x5
       rw [uz.out.save]at x17
       rw [uz.out.cursor]at x18
       obtain⟨cb,hcb⟩:∃cb,bN s=cb:=⟨_,rfl⟩
       rw [hcb]at HE
       have zu:=CM (show cb=(decide (1≤s.cursor)&&decide (s.cursor≤2))from hcb.symm)
       clear hcb
       go_upto_region 9 with fail
       go_cut [10] (fun dv wx=>dv = .bool cb∧Sat w (aD w) wx [blk bt #[.slice (some ⟨cg,cof,none⟩) c.length cc] aX,blk bs e.cells.toArray tSt])
       case first =>
        by_cases h1:1≤s.cursor
        ·by_cases h2:s.cursor≤2
         ·have hb:cb=true:=by rw [zu.out,decide_eq_true h1,decide_eq_true h2];rfl
          go_wp2_with fail
          go_meet
          exact⟨by rw [hb],uo.out⟩
         ·have hb:cb=false:=by rw [zu.out,decide_eq_true h1,decide_eq_false h2];rfl
          go_wp2_with fail
          go_meet
          exact⟨by rw [hb],uo.out⟩
        ·have hb:cb=false:=by rw [zu.out,decide_eq_false h1];rfl
         go_wp2_with fail
         go_meet
         exact⟨by rw [hb],uo.out⟩
       case rest =>
        obtain⟨rfl,hs10⟩:=hcut
        clear uo x0 x2 x3 x4 x5 x6 x7 x17 x18 x19 z0 z1 z2 z3 z4 z5 z6 z7 z8 b0 bf
        have uo:=CM hs10
        clear hs10
        obtain⟨x0,x2,x3,x4,x5,x6,x7,x17,x18,x19⟩:=bj (uo.out.blk 1 rfl)
        obtain⟨z0,z1,z2,z3,z4,z5,z6,z7,z8⟩:=bX (uo.out.blk 1 rfl)
        obtain⟨b0,bf⟩:=aq (uo.out.blk 0 rfl)
        rw [uz.out.kind]at x0
        rw [uz.out.key]at x3 x4 x5
        rw [uz.out.save]at x17
        rw [uz.out.cursor]at x18
        rcases fH s.kind with hk|hk|hk|hk|hk|hk|hk|hk|hk|hk|hk|hk|hk|hk|hk
        ·rw [hk]at x0
         by_cases h1:1≤s.save
         ·by_cases h2:s.save≤3
          ·go_wp2_with fail
           refine bodyPost_ret (results_tmp rfl _ _ _) rfl ?_
           exact⟨by rw [HR.out,HE.out];simp [okK,aV,hk,h1,h2],uo.out.end_ (PH.le.refl _)⟩
          ·go_wp2_with fail
           refine bodyPost_ret (results_tmp rfl _ _ _) rfl ?_
           exact⟨by rw [HR.out,HE.out];simp [okK,aV,hk,h1,h2],uo.out.end_ (PH.le.refl _)⟩
         ·go_wp2_with fail
          refine bodyPost_ret (results_tmp rfl _ _ _) rfl ?_
          exact⟨by rw [HR.out,HE.out];simp [okK,aV,hk];omega,uo.out.end_ (PH.le.refl _)⟩
        ·rw [hk]at x0
         by_cases h1:1≤s.save
         ·by_cases h2:s.save≤3
          ·go_wp2_with fail
           refine bodyPost_ret (results_tmp rfl _ _ _) rfl ?_
           exact⟨by rw [HR.out,HE.out];simp [okK,aV,hk,h1,h2],uo.out.end_ (PH.le.refl _)⟩
          ·go_wp2_with fail
           refine bodyPost_ret (results_tmp rfl _ _ _) rfl ?_
           exact⟨by rw [HR.out,HE.out];simp [okK,aV,hk,h1,h2],uo.out.end_ (PH.le.refl _)⟩
         ·go_wp2_with fail
          refine bodyPost_ret (results_tmp rfl _ _ _) rfl ?_
          exact⟨by rw [HR.out,HE.out];simp [okK,aV,hk];omega,uo.out.end_ (PH.le.refl _)⟩
        ·rw [hk]at x0
         cases kb<;>(go_wp2_with fail;refine bodyPost_ret (results_tmp rfl _ _ _) rfl ?_;exact⟨by rw [HR.out,HE.out];simp [okK,aV,hk],uo.out.end_ (PH.le.refl _)⟩)
        ·rw [hk]at x0
         have wh:=CM (kX (uU.out.rd uo.out) (RdP.rd uz.out.row.1 uo.out))
         rw [wN.out]at wh
         rw [wN.out]at x6
         cases hft:bw c s.row<;>rw [hft]at wh
         ·go_wp2_with (go_at_call 35;refine wh.out.mono ?_;rintro e8 w8 ⟨rfl,hk8⟩;have uN:=CM (uo.out.kept hk8);clear hk8 wh uo x0 x2 x3 x4 x5 x6 x7 x17 x18 x19 z0 z1 z2 z3 z4 z5 z6 z7 z8 b0 bf)
          refine bodyPost_ret (results_tmp rfl _ _ _) rfl ?_
          exact⟨by rw [HR.out,HE.out];simp [okK,aV,hk,hft],uN.out.end_ (PH.le.refl _)⟩
         ·go_wp2_with (go_at_call 35;refine wh.out.mono ?_;rintro e8 w8 ⟨rfl,hk8⟩;have uN:=CM (uo.out.kept hk8);clear hk8 wh uo x0 x2 x3 x4 x5 x6 x7 x17 x18 x19 z0 z1 z2 z3 z4 z5 z6 z7 z8 b0 bf)
          refine bodyPost_ret (results_tmp rfl _ _ _) rfl ?_
          exact⟨by rw [HR.out,HE.out];simp [okK,aV,hk,hft],uN.out.end_ (PH.le.refl _)⟩
        ·rw [hk]at x0
         cases kb<;>cases sb<;>(go_wp2_with fail;refine bodyPost_ret (results_tmp rfl _ _ _) rfl ?_;exact⟨by rw [HR.out,HE.out];simp [okK,aV,hk],uo.out.end_ (PH.le.refl _)⟩)
        ·rw [hk]at x0
         cases kb<;>(go_wp2_with fail;refine bodyPost_ret (results_tmp rfl _ _ _) rfl ?_;exact⟨by rw [HR.out,HE.out];simp [okK,aV,hk],uo.out.end_ (PH.le.refl _)⟩)
        ·rw [hk]at x0
         cases pb<;>(go_wp2_with fail;refine bodyPost_ret (results_tmp rfl _ _ _) rfl ?_;exact⟨by rw [HR.out,HE.out];simp [okK,aV,hk],uo.out.end_ (PH.le.refl _)⟩)
        ·rw [hk]at x0
         cases pb<;>cases sb<;>(go_wp2_with fail;refine bodyPost_ret (results_tmp rfl _ _ _) rfl ?_;exact⟨by rw [HR.out,HE.out];simp [okK,aV,hk],uo.out.end_ (PH.le.refl _)⟩)
        ·rw [hk]at x0
         cases pb<;>(go_wp2_with fail;refine bodyPost_ret (results_tmp rfl _ _ _) rfl ?_;exact⟨by rw [HR.out,HE.out];simp [okK,aV,hk],uo.out.end_ (PH.le.refl _)⟩)
        ·rw [hk]at x0
         cases pb
         ·go_wp2_with fail
          refine bodyPost_ret (results_tmp rfl _ _ _) rfl ?_
          exact⟨by rw [HR.out,HE.out];simp [okK,aV,hk],uo.out.end_ (PH.le.refl _)⟩
         ·cases cb
          ·go_wp2_with fail
           refine bodyPost_ret (results_tmp rfl _ _ _) rfl ?_
           exact⟨by rw [HR.out,HE.out];simp [okK,aV,hk],uo.out.end_ (PH.le.refl _)⟩
          ·have uH:=CM (nM e.pe uz.out.subs (by rw [uz.out.pred];exact ye.out) uo.out)
           rw [uz.out.pred]at uH
           by_cases h13:s.pred.nodes.length≤13
           ·have h13':((s.pred.nodes.length:Int)≤13):=by omega
            generalize hnl:(s.pred.nodes.length:Int)=nl at uH h13'
            clear hnl
            go_wp2_with (go_at_call 36;refine uH.out.mono ?_;rintro e8 w8 ⟨rfl,hs8⟩;have uN:=CM hs8;clear hs8 uH uo x0 x2 x3 x4 x5 x6 x7 x17 x18 x19 z0 z1 z2 z3 z4 z5 z6 z7 z8 b0 bf)
            refine bodyPost_ret (results_tmp rfl _ _ _) rfl ?_
            exact⟨by rw [HR.out,HE.out];simp [okK,aV,hk,h13],uN.out.end_ (PH.le.refl _)⟩
           ·have h13':((s.pred.nodes.length:Int)≤13)=False:=by simp;omega
            generalize hnl:(s.pred.nodes.length:Int)=nl at uH h13'
            clear hnl
            go_wp2_with (go_at_call 36;refine uH.out.mono ?_;rintro e8 w8 ⟨rfl,hs8⟩;have uN:=CM hs8;clear hs8 uH uo x0 x2 x3 x4 x5 x6 x7 x17 x18 x19 z0 z1 z2 z3 z4 z5 z6 z7 z8 b0 bf)
            refine bodyPost_ret (results_tmp rfl _ _ _) rfl ?_
            exact⟨by rw [HR.out,HE.out];simp [okK,aV,hk,h13],uN.out.end_ (PH.le.refl _)⟩
        ·rw [hk]at x0
         cases cb<;>(go_wp2_with fail;refine bodyPost_ret (results_tmp rfl _ _ _) rfl ?_;exact⟨by rw [HR.out,HE.out];simp [okK,aV,hk],uo.out.end_ (PH.le.refl _)⟩)
        ·rw [hk]at x0
         cases cb<;>(go_wp2_with fail;refine bodyPost_ret (results_tmp rfl _ _ _) rfl ?_;exact⟨by rw [HR.out,HE.out];simp [okK,aV,hk],uo.out.end_ (PH.le.refl _)⟩)
        ·rw [hk]at x0
         cases cb<;>(go_wp2_with fail;refine bodyPost_ret (results_tmp rfl _ _ _) rfl ?_;exact⟨by rw [HR.out,HE.out];simp [okK,aV,hk],uo.out.end_ (PH.le.refl _)⟩)
        ·rw [hk]at x0
         cases cb<;>(go_wp2_with fail;refine bodyPost_ret (results_tmp rfl _ _ _) rfl ?_;exact⟨by rw [HR.out,HE.out];simp [okK,aV,hk],uo.out.end_ (PH.le.refl _)⟩)
        ·obtain⟨k4,k5,k6,k7,k8,k9,k10,k11,k12,k13,k14,k15,k16,k17⟩:=hk
         have hk:¬(14≤s.kind∧s.kind≤17):=by omega
         go_wp2_with fail
         refine bodyPost_ret (results_tmp rfl _ _ _) rfl ?_
         exact⟨by rw [HR.out,HE.out];simp [okK,aV,hk,k4,k5,k6,k7,k8,k9,k10,k11,k12,k13],uo.out.end_ (PH.le.refl _)⟩
end Go.Proofs.YtdobimafhbfkhaaGreat
