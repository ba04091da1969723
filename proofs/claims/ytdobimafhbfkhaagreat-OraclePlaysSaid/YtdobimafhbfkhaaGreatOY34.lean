/- Whether a statement may be (oracle.Check). -/
import Derived.Test.YtdobimafhbfkhaaGreatOY30
import Derived.Test.YtdobimafhbfkhaaGreatOY31
import Derived.Test.YtdobimafhbfkhaaGreatOY33
import Derived.Deep.DeepCutAuto
set_option maxHeartbeats 64000000
namespace Go.Proofs.YtdobimafhbfkhaaGreat
open Go.ChangeShapes Go.WideShapes Go.ChangeAt Go.RowKit
set_option maxRecDepth 100000
set_option linter.unusedSimpArgs false
def okK (kind:Int)(key holds sets cursor save fits small:Bool):Bool :=
 if kind=4∨kind=5 then save else
 if kind=6∨kind=9 then key else
 if kind=7 then fits else
 if kind=8 then key&&sets else
 if kind=10∨kind=12 then holds else
 if kind=11 then holds&&sets else
 if kind=13 then holds&&cursor&&small else
 if 14≤kind∧kind≤17 then cursor else false
def bL (s:StmM):Bool:=decide (1≤s.cursor)&&decide (s.cursor≤2)
def aU (s:StmM):Bool:=decide (1≤s.save)&&decide (s.save≤3)
theorem oz {cols:List (List Bool)}{s:StmM}(h:(decide (0≤s.table)&&decide (s.table<(cols.length:Int))&&cj (cols.getD s.table.toNat []))=false):okS cols s=okK s.kind false false false (bL s) (aU s) false false:=by
 unfold okS okK bL aU;simp only [h,Bool.false_and]
theorem oV {cols:List (List Bool)}{s:StmM}{i:Nat}{c:List Bool}(ht:s.table=(i:Int))(hc:cols[i]?=some c)(hm:cj c=true):okS cols s=okK s.kind (am s.key&&decide (s.key.t=c.getD 0 false)) (bY c s.pred) (cG c s.sets) (bL s) (aU s) (aX c s.row) (decide (s.pred.nodes.length≤13)):=by
 have hlt:=(FO.1 hc).1;have h1:cols.getD s.table.toNat []=c:=by rw [ht,F6,FW,hc];rfl
 have h2:decide (0≤s.table)=true:=F5 (by omega);have h3:decide (s.table<(cols.length:Int))=true:=F5 (by omega);unfold okS okK bL aU;simp only [h1,h2,h3,hm,Bool.true_and]
theorem gN (k:Int):k=4∨k=5∨k=6∨k=7∨k=8∨k=9∨k=10∨k=11∨k=12∨k=13∨k=14∨k=15∨k=16∨k=17∨(k≠4∧k≠5∧k≠6∧k≠7∧k≠8∧k≠9∧k≠10∧k≠11∧k≠12∧k≠13∧k≠14∧k≠15∧k≠16∧k≠17):=by omega
theorem wB {w:World}{tv:Value}{cols:List (List Bool)}{e:StmE}{s:StmM}(ht:TblsAt (aB w) tv cols)(hs:StmOk (aB w) e s)(hn:s.pred.nodes.length≤1000000) :
  Calls Tryz.prog 12 #[tv,.agg e.cells.toArray] w fun r w'=>r = .returned (.int .i64 (if okS cols s then 0 else 167))∧Kept (fun _=>False) w w':=by
 obtain⟨W0,hW0,h0⟩:∃W,W=(w.alloc (.cells e.cells.toArray tSt)).alloc (.cells #[.slice none 0 0] bN)∧Sat w (aB w) W [blk (w.heap.size+1) #[.slice none 0 0] bN,blk w.heap.size e.cells.toArray tSt]:=by
  have h1:=((Sat.start w).alloc e.cells.toArray tSt).alloc #[.slice none 0 0] bN;rw [World.size_alloc]at h1;exact⟨_,rfl,h1⟩
 have xh:=FH hW0;obtain⟨us,hu1,hu2,hu3,hu4⟩:=ht;obtain⟨ta,tc,rfl⟩:=hu3.shape;have HU:=FH (And.intro hu1 hu4);have zo:=FH hu3;have wR:=FH hs;have AX:=FH hn;have wS:=FH h0;obtain⟨rr,hrr⟩:∃rr:Int,rr=(if okS cols s then 0 else 167):=⟨_,rfl⟩;rw [←hrr];have HR:=FH hrr;generalize hTN:cols.length=TN at *;have yU:=FH hTN;clear hW0 hu1 hu2 hu3 hu4 hs hn h0 hrr hTN;go_enter Tryz.func12,Tryz.ntmps12;go_upto_region 2 with fail
 rw [←xh.out];clear xh;generalize w.heap.size+1=bt at wS ⊢;generalize w.heap.size=bs at wS ⊢;obtain⟨x0,x2,x3,x4,x5,x6,x7,x17,x18,x19⟩:=aO (wS.out.blk 1 rfl);obtain⟨z0,z1,z2,z3,z4,z5,z6,z7,z8⟩:=bR (wS.out.blk 1 rfl);obtain⟨b0,bf⟩:=aC (wS.out.blk 0 rfl);rw [wR.out.kind]at x0;rw [wR.out.table]at x2;rw [wR.out.key]at x3 x4 x5;rw [wR.out.save]at x17;rw [wR.out.cursor]at x18;have xT:=FH (show e.row.v = .slice e.row.ro e.row.rn e.row.rc from rfl);obtain⟨isb,his⟩:∃isb:Bool,isb=(decide (0≤s.table)&&decide (s.table<(TN:Int))):=⟨_,rfl⟩;have zE:=FH his;clear his
 go_cut [6] (fun iv wx=>iv = .bool isb∧wx=W0)
 case first =>
  by_cases hr1:0≤s.table
  ·by_cases hr2:s.table<(TN:Int)
   ·have hb:isb=true:=by rw [zE.out,F5 hr1,F5 hr2];rfl
    go_wp2_with fail;go_meet;exact⟨by rw [hb],rfl⟩
   ·have hb:isb=false:=by rw [zE.out,F5 hr1,FY hr2];rfl
    go_wp2_with fail;go_meet;exact⟨by rw [hb],rfl⟩
  ·have hb:isb=false:=by rw [zE.out,FY hr1];rfl
   go_wp2_with fail;go_meet;exact⟨by rw [hb],rfl⟩
 case rest =>
  obtain⟨rfl,rfl⟩:=hcut
  go_upto_if 22 with fail
  go_cut [6] (fun iv wx=>∃(jb:Bool) (ca:Option Addr) (cn cc:Nat),iv = .bool jb∧Sat w (aB w) wx [blk bt #[.slice ca cn cc] bN,blk bs e.cells.toArray tSt]∧((jb=false∧okS cols s=okK s.kind false false false (bL s) (aU s) false false)∨(jb=true∧∃(i:Nat) (c:List Bool),s.table=(i:Int)∧cols[i]?=some c∧cj c=true∧cn=c.length∧RdP (aB w) 1 (.slice ca cn cc) c.length (c.flatMap dt))))
  case first =>
   cases isb with
   | false =>
    have HE:=FH (show okS cols s=okK s.kind false false false (bL s) (aU s) false false from oz (by rw [yU.out,←zE.out];rfl));go_wp2_with fail;go_meet;exact⟨false,none,0,0,rfl,wS.out,.inl ⟨rfl,HE.out⟩⟩
   | true =>
    have hr:0≤s.table∧s.table<(TN:Int):=by
     have h1:=zE.out.symm;simp only [Bool.and_eq_true,decide_eq_true_eq]at h1;exact h1
    obtain⟨hr1,hr2⟩:=hr;obtain⟨i,hi⟩:∃i:Nat,s.table=(i:Int):=⟨s.table.toNat,by omega⟩;rw [hi]at x2 hr2;have hiN:i<TN:=by omega
    obtain⟨c,hc⟩:∃c,cols[i]?=some c:=⟨cols[i]'(by rw [yU.out];exact hiN),FP _⟩;obtain⟨cv,hcv⟩:∃cv,us[i]?=some cv:=⟨us[i]'(by rw [HU.out.1];exact hiN),FP _⟩;have hcol:=HU.out.2 i cv c hcv hc;obtain⟨ca,cc,rfl⟩:=hcol.shape;obtain⟨tg,tof,rfl,htc⟩:∃tg tof,ta=some ⟨tg,tof,none⟩∧wc.cell? ⟨tg,tof+i,none⟩=some (.slice ca c.length cc):=by
     obtain⟨_,_,ao,cap,hv,_,_,_,hcell⟩:=zo.out.rd wS.out;cases hv;rcases hcell with h0|⟨g,og,hg,hcc⟩
     ·omega
     ·exact⟨g,og,hg,hcc i _ hcv⟩
    have wG:=FH (wS.out.set 0 (.slice ca c.length cc));have xw:=FH hcol;have HC:=FH hc;have HI:=FH hi;clear hc hcv hcol hr1 hi;go_upto_region 5 with fail
    obtain⟨W1,hW1⟩:∃W,W=wc.setCell ⟨bt,0,none⟩ (.slice ca c.length cc):=⟨_,rfl⟩;rw [←hW1]at wG ⊢;have wW:=FH (show Sat w (aB w) W1 [blk bt #[.slice ca c.length cc] bN,blk bs e.cells.toArray tSt]from wG.out);clear hW1 wG wS x0 x2 x3 x4 x5 x6 x7 x17 x18 x19 z0 z1 z2 z3 z4 z5 z6 z7 z8 b0 bf htc;have ye:=FH (gq (xw.out.rd wW.out));obtain⟨b0,bf⟩:=aC (wW.out.blk 0 rfl);cases hm:cj c with
    | false =>
     rw [show chk c=1 by unfold chk;rw [hm];rfl]at ye;have HE:=FH (show okS cols s=okK s.kind false false false (bL s) (aU s) false false from oz (by
      rw [HI.out,F6,FW,HC.out]
      show(_&&cj c)=false;rw [hm,Bool.and_false]))
     clear hm;go_wp2_with (go_at_call 31;refine ye.out.mono ?_;rintro e1 w1 ⟨rfl,hk1⟩;have xa:=FH (wW.out.kept hk1);clear hk1 ye wW b0 bf);go_meet;exact⟨false,ca,c.length,cc,rfl,xa.out,.inl ⟨rfl,HE.out⟩⟩
    | true =>
     rw [show chk c=0 by unfold chk;rw [hm];rfl]at ye;have HM:=FH hm;clear hm;go_wp2_with (go_at_call 31;refine ye.out.mono ?_;rintro e1 w1 ⟨rfl,hk1⟩;have xa:=FH (wW.out.kept hk1);clear hk1 ye wW b0 bf);go_meet;exact⟨true,ca,c.length,cc,rfl,xa.out,.inr ⟨rfl,i,c,HI.out,HC.out,HM.out,rfl,xw.out⟩⟩
  case rest =>
   obtain⟨jb,ca,cn,cc,rfl,hs,hj⟩:=hcut;have xa:=FH hs;clear hs wS x0 x2 x3 x4 x5 x6 x7 x17 x18 x19 z0 z1 z2 z3 z4 z5 z6 z7 z8 b0 bf;obtain⟨x0,x2,x3,x4,x5,x6,x7,x17,x18,x19⟩:=aO (xa.out.blk 1 rfl);obtain⟨z0,z1,z2,z3,z4,z5,z6,z7,z8⟩:=bR (xa.out.blk 1 rfl);obtain⟨b0,bf⟩:=aC (xa.out.blk 0 rfl);rw [wR.out.kind]at x0;rw [wR.out.key]at x3 x4 x5;rw [wR.out.save]at x17;rw [wR.out.cursor]at x18;rcases hj with ⟨rfl,he⟩|⟨rfl,i,c,hi,hc,hm,rfl,hcol⟩
   ·have HE:=FH he
    clear he;go_upto_region 6 with fail
    refine aH [rq 0 4,rq 1 4,rq 2 4,rq 3 4,(4,true,0),rq 5 999,rq 6 999,rq 7 999,rq 8 999,rq 9 999,rq 10 999,rq 11 999,rq 12 999,rq 13 999,rq 14 999,rq 15 999,rq 16 999] ?_;(iterate 4 (first|(refine ax rfl rfl ?_;simp only [Act.put,FI,FJ,FK,FL,FM,FN])|((first|refine ae rfl rfl (fun K hK=>?_)|refine ar rfl rfl fun K hK=>?_);go_simp;apply hK;clear hK K)));refine af rfl ?_;refine bU rfl ?_;simp only [Act.put,FI,FJ,FK];refine wpList_nil ?_;apply And.intro
    ·go_simp
    (iterate 12 (first|(refine ax rfl rfl ?_;simp only [Act.put,FI,FJ,FK,FL,FM,FN])|((first|refine ae rfl rfl (fun K hK=>?_)|refine ar rfl rfl fun K hK=>?_);go_simp;apply hK;clear hK K)));refine ag ?_
    have wH:=FH (xa.out.kept (Kept.refl (fun _=>False) _).drew);clear xa x0 x2 x3 x4 x5 x6 x7 x17 x18 x19 z0 z1 z2 z3 z4 z5 z6 z7 z8 b0 bf;obtain⟨x0,x2,x3,x4,x5,x6,x7,x17,x18,x19⟩:=aO (wH.out.blk 1 rfl);obtain⟨z0,z1,z2,z3,z4,z5,z6,z7,z8⟩:=bR (wH.out.blk 1 rfl);obtain⟨b0,bf⟩:=aC (wH.out.blk 0 rfl);rw [wR.out.kind]at x0;rw [wR.out.key]at x3 x4 x5;rw [wR.out.save]at x17;rw [wR.out.cursor]at x18;obtain⟨cb,hcb⟩:∃cb,bL s=cb:=⟨_,rfl⟩;rw [hcb]at HE;have B9:=FH (show cb=(decide (1≤s.cursor)&&decide (s.cursor≤2))from hcb.symm);clear hcb;go_upto_region 9 with fail
    go_cut [10] (fun dv wx=>dv = .bool cb∧Sat w (aB w) wx [blk bt #[.slice ca cn cc] bN,blk bs e.cells.toArray tSt])
    case first =>
     by_cases h1:1≤s.cursor
     ·by_cases h2:s.cursor≤2
      ·have hb:cb=true:=by rw [B9.out,F5 h1,F5 h2];rfl
       go_wp2_with fail;go_meet;exact⟨by rw [hb],wH.out⟩
      ·have hb:cb=false:=by rw [B9.out,F5 h1,FY h2];rfl
       go_wp2_with fail;go_meet;exact⟨by rw [hb],wH.out⟩
     ·have hb:cb=false:=by rw [B9.out,FY h1];rfl
      go_wp2_with fail;go_meet;exact⟨by rw [hb],wH.out⟩
    case rest =>
     obtain⟨rfl,hs10⟩:=hcut;clear wH x0 x2 x3 x4 x5 x6 x7 x17 x18 x19 z0 z1 z2 z3 z4 z5 z6 z7 z8 b0 bf;have wH:=FH hs10;clear hs10;obtain⟨x0,x2,x3,x4,x5,x6,x7,x17,x18,x19⟩:=aO (wH.out.blk 1 rfl);obtain⟨z0,z1,z2,z3,z4,z5,z6,z7,z8⟩:=bR (wH.out.blk 1 rfl);obtain⟨b0,bf⟩:=aC (wH.out.blk 0 rfl);rw [wR.out.kind]at x0;rw [wR.out.key]at x3 x4 x5;rw [wR.out.save]at x17;rw [wR.out.cursor]at x18;rcases gN s.kind with hk|hk|hk|hk|hk|hk|hk|hk|hk|hk|hk|hk|hk|hk|hk
     ·rw [hk]at x0
      by_cases h1:1≤s.save
      ·by_cases h2:s.save≤3
       ·go_wp2_with fail
        go_ret;exact⟨by rw [HR.out,HE.out];simp [okK,aU,hk,h1,h2],wH.out.end_ (PH.le.refl _)⟩
       ·go_wp2_with fail
        go_ret;exact⟨by rw [HR.out,HE.out];simp [okK,aU,hk,h1,h2],wH.out.end_ (PH.le.refl _)⟩
      ·go_wp2_with fail
       go_ret;exact⟨by rw [HR.out,HE.out];simp [okK,aU,hk];omega,wH.out.end_ (PH.le.refl _)⟩
     ·rw [hk]at x0
      by_cases h1:1≤s.save
      ·by_cases h2:s.save≤3
       ·go_wp2_with fail
        go_ret;exact⟨by rw [HR.out,HE.out];simp [okK,aU,hk,h1,h2],wH.out.end_ (PH.le.refl _)⟩
       ·go_wp2_with fail
        go_ret;exact⟨by rw [HR.out,HE.out];simp [okK,aU,hk,h1,h2],wH.out.end_ (PH.le.refl _)⟩
      ·go_wp2_with fail
       go_ret;exact⟨by rw [HR.out,HE.out];simp [okK,aU,hk];omega,wH.out.end_ (PH.le.refl _)⟩
     ·rw [hk]at x0
      go_wp2_with fail;go_ret;exact⟨by rw [HR.out,HE.out];simp [okK,aU,hk],wH.out.end_ (PH.le.refl _)⟩
     ·rw [hk]at x0
      go_wp2_with fail;go_ret;exact⟨by rw [HR.out,HE.out];simp [okK,aU,hk],wH.out.end_ (PH.le.refl _)⟩
     ·rw [hk]at x0
      go_wp2_with fail;go_ret;exact⟨by rw [HR.out,HE.out];simp [okK,aU,hk],wH.out.end_ (PH.le.refl _)⟩
     ·rw [hk]at x0
      go_wp2_with fail;go_ret;exact⟨by rw [HR.out,HE.out];simp [okK,aU,hk],wH.out.end_ (PH.le.refl _)⟩
     ·rw [hk]at x0
      go_wp2_with fail;go_ret;exact⟨by rw [HR.out,HE.out];simp [okK,aU,hk],wH.out.end_ (PH.le.refl _)⟩
     ·rw [hk]at x0
      go_wp2_with fail;go_ret;exact⟨by rw [HR.out,HE.out];simp [okK,aU,hk],wH.out.end_ (PH.le.refl _)⟩
     ·rw [hk]at x0
      go_wp2_with fail;go_ret;exact⟨by rw [HR.out,HE.out];simp [okK,aU,hk],wH.out.end_ (PH.le.refl _)⟩
     ·rw [hk]at x0
      go_wp2_with fail;go_ret;exact⟨by rw [HR.out,HE.out];simp [okK,aU,hk],wH.out.end_ (PH.le.refl _)⟩
     ·rw [hk]at x0
      cases cb<;>(go_wp2_with fail;go_ret;exact⟨by rw [HR.out,HE.out];simp [okK,aU,hk],wH.out.end_ (PH.le.refl _)⟩)
     ·rw [hk]at x0
      cases cb<;>(go_wp2_with fail;go_ret;exact⟨by rw [HR.out,HE.out];simp [okK,aU,hk],wH.out.end_ (PH.le.refl _)⟩)
     ·rw [hk]at x0
      cases cb<;>(go_wp2_with fail;go_ret;exact⟨by rw [HR.out,HE.out];simp [okK,aU,hk],wH.out.end_ (PH.le.refl _)⟩)
     ·rw [hk]at x0
      cases cb<;>(go_wp2_with fail;go_ret;exact⟨by rw [HR.out,HE.out];simp [okK,aU,hk],wH.out.end_ (PH.le.refl _)⟩)
     ·obtain⟨k4,k5,k6,k7,k8,k9,k10,k11,k12,k13,k14,k15,k16,k17⟩:=hk
      have hk:¬(14≤s.kind∧s.kind≤17):=by omega
      go_wp2_with fail;go_ret;exact⟨by rw [HR.out,HE.out];simp [okK,aU,hk,k4,k5,k6,k7,k8,k9,k10,k11,k12,k13],wH.out.end_ (PH.le.refl _)⟩
   ·have HE:=FH (show okS cols s=_ from oV hi hc hm)
    have HM:=FH hm;have xw:=FH hcol;obtain⟨c0,hc0⟩:∃c0,c[0]?=some c0:=⟨c[0]'(by unfold cj at hm;simp at hm;omega),FP _⟩;have A3:=FH (show c.getD 0 false=c0 by rw [FW,hc0];rfl);rw [A3.out]at HE;have hcl:0<c.length:=(FO.1 hc0).1;have hcl2:(0:Int)<(c.length:Int):=by omega
    obtain⟨cg,cof,rfl,hcz⟩:∃cg cof,ca=some ⟨cg,cof,none⟩∧∀W,Sat w (aB w) W [blk bt #[.slice ca c.length cc] bN,blk bs e.cells.toArray tSt]→W.cell? ⟨cg,cof,none⟩=some (.bool c0):=by
     obtain⟨_,_,ao,cap,hv,_,_,_,hcell⟩:=hcol;cases hv;rcases hcell with h0|⟨g,og,rfl,hcc⟩
     ·omega
     ·refine⟨g,og,rfl,fun W hW=>?_⟩
      obtain⟨_,_,ao,cap,hv,_,_,_,hcell2⟩:=xw.out.rd hW;cases hv;rcases hcell2 with h0|⟨g2,og2,hg2,hcc2⟩
      ·omega
      ·cases hg2
       exact hcc2 0 _ (by cases c with|nil=>cases hc0|cons a c=>simp at hc0;subst hc0;rfl)
    have EH:=FH hcz;have hcz0:=hcz _ xa.out;obtain⟨kb,hkb⟩:∃kb,(am s.key&&decide (s.key.t=c0))=kb:=⟨_,rfl⟩;rw [hkb]at HE;have BE:=FH hkb;clear hi hc hm hcol hc0 hcz hkb;go_upto_region 6 with fail
    go_cut [7] (fun kv wx=>kv = .bool kb∧Sat w (aB w) wx [blk bt #[.slice (some ⟨cg,cof,none⟩) c.length cc] bN,blk bs e.cells.toArray tSt])
    case first =>
     have xH:=FH (cP s.key wc.drew);cases hvr:am s.key with
     | false =>
      rw [hvr]at xH;have yG:=FH (show kb=false by rw [←BE.out,hvr];rfl);clear hvr;refine aH [rq 0 4,rq 1 4,rq 2 4,rq 3 4,(4,true,0),rq 5 999,rq 6 999,rq 7 999,rq 8 999,rq 9 999,rq 10 999,rq 11 999,rq 12 999,rq 13 999,rq 14 999,rq 15 999,rq 16 999] ?_;(iterate 4 (first|(refine ax rfl rfl ?_;simp only [Act.put,FI,FJ,FK,FL,FM,FN])|((first|refine ae rfl rfl (fun K hK=>?_)|refine ar rfl rfl fun K hK=>?_);go_simp;apply hK;clear hK K)));refine af rfl ?_;refine al rfl fun K hK=>?_;go_simp;refine xH.out.mono ?_;rintro e2 w2 ⟨rfl,hk2⟩;have xR:=FH ((xa.out.kept (Kept.refl (fun _=>False) _).drew).kept hk2);clear hk2 xH xa x0 x2 x3 x4 x5 x6 x7 x17 x18 x19 z0 z1 z2 z3 z4 z5 z6 z7 z8 b0 bf hcz0;obtain⟨x0,x2,x3,x4,x5,x6,x7,x17,x18,x19⟩:=aO (xR.out.blk 1 rfl);obtain⟨z0,z1,z2,z3,z4,z5,z6,z7,z8⟩:=bR (xR.out.blk 1 rfl);obtain⟨b0,bf⟩:=aC (xR.out.blk 0 rfl);rw [wR.out.kind]at x0;rw [wR.out.key]at x3 x4 x5;rw [wR.out.save]at x17;rw [wR.out.cursor]at x18;have hcz0:=EH.out w2 xR.out;refine hK _ _ ?_;clear hK K;refine wpList_nil ?_;apply And.intro
      ·go_simp
      (iterate 12 (first|(refine ax rfl rfl ?_;simp only [Act.put,FI,FJ,FK,FL,FM,FN])|((first|refine ae rfl rfl (fun K hK=>?_)|refine ar rfl rfl fun K hK=>?_);go_simp;apply hK;clear hK K)));refine ag ?_
      go_wp2_with fail;go_meet;exact⟨by rw [yG.out],xR.out⟩
     | true =>
      rw [hvr]at xH;have yG:=FH (show kb=(s.key.t == c0) by rw [←BE.out,hvr];rfl);clear hvr;refine aH [rq 0 4,rq 1 4,rq 2 4,rq 3 4,(4,true,0),rq 5 999,rq 6 999,rq 7 999,rq 8 999,rq 9 999,rq 10 999,rq 11 999,rq 12 999,rq 13 999,rq 14 999,rq 15 999,rq 16 999] ?_;(iterate 4 (first|(refine ax rfl rfl ?_;simp only [Act.put,FI,FJ,FK,FL,FM,FN])|((first|refine ae rfl rfl (fun K hK=>?_)|refine ar rfl rfl fun K hK=>?_);go_simp;apply hK;clear hK K)));refine af rfl ?_;refine al rfl fun K hK=>?_;go_simp;refine xH.out.mono ?_;rintro e2 w2 ⟨rfl,hk2⟩;have xR:=FH ((xa.out.kept (Kept.refl (fun _=>False) _).drew).kept hk2);clear hk2 xH xa x0 x2 x3 x4 x5 x6 x7 x17 x18 x19 z0 z1 z2 z3 z4 z5 z6 z7 z8 b0 bf hcz0;obtain⟨x0,x2,x3,x4,x5,x6,x7,x17,x18,x19⟩:=aO (xR.out.blk 1 rfl);obtain⟨z0,z1,z2,z3,z4,z5,z6,z7,z8⟩:=bR (xR.out.blk 1 rfl);obtain⟨b0,bf⟩:=aC (xR.out.blk 0 rfl);rw [wR.out.kind]at x0;rw [wR.out.key]at x3 x4 x5;rw [wR.out.save]at x17;rw [wR.out.cursor]at x18;have hcz0:=EH.out w2 xR.out;refine hK _ _ ?_;clear hK K;refine wpList_nil ?_;apply And.intro
      ·go_simp
      (iterate 12 (first|(refine ax rfl rfl ?_;simp only [Act.put,FI,FJ,FK,FL,FM,FN])|((first|refine ae rfl rfl (fun K hK=>?_)|refine ar rfl rfl fun K hK=>?_);go_simp;apply hK;clear hK K)));refine ag ?_
      go_wp2_with fail;go_meet;exact⟨by rw [yG.out],xR.out⟩
    case rest =>
     obtain⟨rfl,hs7⟩:=hcut;have xR:=FH hs7;clear hs7 xa x0 x2 x3 x4 x5 x6 x7 x17 x18 x19 z0 z1 z2 z3 z4 z5 z6 z7 z8 b0 bf hcz0;obtain⟨x0,x2,x3,x4,x5,x6,x7,x17,x18,x19⟩:=aO (xR.out.blk 1 rfl);obtain⟨z0,z1,z2,z3,z4,z5,z6,z7,z8⟩:=bR (xR.out.blk 1 rfl);obtain⟨b0,bf⟩:=aC (xR.out.blk 0 rfl);rw [wR.out.kind]at x0;rw [wR.out.key]at x3 x4 x5;rw [wR.out.save]at x17;rw [wR.out.cursor]at x18;obtain⟨pb,hpb⟩:∃pb,bY c s.pred=pb:=⟨_,rfl⟩;rw [hpb]at HE;have zh:=FH (rF e.pe xw.out HM.out wR.out.subs (by rw [wR.out.pred];exact AX.out) xR.out);rw [wR.out.pred,hpb]at zh;clear hpb;go_upto_region 7 with fail
     go_cut [8] (fun dv wx=>dv = .bool pb∧Sat w (aB w) wx [blk bt #[.slice (some ⟨cg,cof,none⟩) c.length cc] bN,blk bs e.cells.toArray tSt])
     case first =>
      cases pb
      ·go_wp2_with (go_at_call 33;refine zh.out.mono ?_;rintro e8 w8 ⟨rfl,hs8⟩;have x9:=FH hs8;clear hs8 zh xR x0 x2 x3 x4 x5 x6 x7 x17 x18 x19 z0 z1 z2 z3 z4 z5 z6 z7 z8 b0 bf)
       go_meet;exact⟨rfl,x9.out⟩
      ·go_wp2_with (go_at_call 33;refine zh.out.mono ?_;rintro e8 w8 ⟨rfl,hs8⟩;have x9:=FH hs8;clear hs8 zh xR x0 x2 x3 x4 x5 x6 x7 x17 x18 x19 z0 z1 z2 z3 z4 z5 z6 z7 z8 b0 bf)
       go_meet;exact⟨rfl,x9.out⟩
     case rest =>
      obtain⟨rfl,hs8⟩:=hcut;have x9:=FH hs8;clear hs8 zh xR x0 x2 x3 x4 x5 x6 x7 x17 x18 x19 z0 z1 z2 z3 z4 z5 z6 z7 z8 b0 bf;obtain⟨x0,x2,x3,x4,x5,x6,x7,x17,x18,x19⟩:=aO (x9.out.blk 1 rfl);obtain⟨z0,z1,z2,z3,z4,z5,z6,z7,z8⟩:=bR (x9.out.blk 1 rfl);obtain⟨b0,bf⟩:=aC (x9.out.blk 0 rfl);rw [wR.out.kind]at x0;rw [wR.out.key]at x3 x4 x5;rw [wR.out.save]at x17;rw [wR.out.cursor]at x18;obtain⟨sb,hsb⟩:∃sb,cG c s.sets=sb:=⟨_,rfl⟩;rw [hsb]at HE;have xF:=FH (ig (xw.out.rd x9.out) (RdP.rd wR.out.sets.1 x9.out));rw [show eK c s.sets=if sb then 0 else 20 by unfold eK;rw [HM.out,hsb];rfl]at xF;obtain⟨sva,svn,svc,hsv⟩:∃a n c,e.sets.v = .slice a n c:=⟨_,_,_,rfl⟩;rw [hsv]at xF x7;clear hsb hsv;go_upto_region 8 with fail
      go_cut [9] (fun dv wx=>dv = .bool sb∧Sat w (aB w) wx [blk bt #[.slice (some ⟨cg,cof,none⟩) c.length cc] bN,blk bs e.cells.toArray tSt])
      case first =>
       cases sb
       ·go_wp2_with (go_at_call 34;refine xF.out.mono ?_;rintro e9 w9 ⟨rfl,hk9⟩;have yI:=FH (x9.out.kept hk9);clear hk9 xF x9 x0 x2 x3 x4 x5 x6 x7 x17 x18 x19 z0 z1 z2 z3 z4 z5 z6 z7 z8 b0 bf)
        go_meet;exact⟨rfl,yI.out⟩
       ·go_wp2_with (go_at_call 34;refine xF.out.mono ?_;rintro e9 w9 ⟨rfl,hk9⟩;have yI:=FH (x9.out.kept hk9);clear hk9 xF x9 x0 x2 x3 x4 x5 x6 x7 x17 x18 x19 z0 z1 z2 z3 z4 z5 z6 z7 z8 b0 bf)
        go_meet;exact⟨rfl,yI.out⟩
      case rest =>
       obtain⟨rfl,hs9⟩:=hcut;have wH:=FH hs9;clear hs9 xF x9 x0 x2 x3 x4 x5 x6 x7 x17 x18 x19 z0 z1 z2 z3 z4 z5 z6 z7 z8 b0 bf;obtain⟨x0,x2,x3,x4,x5,x6,x7,x17,x18,x19⟩:=aO (wH.out.blk 1 rfl);obtain⟨z0,z1,z2,z3,z4,z5,z6,z7,z8⟩:=bR (wH.out.blk 1 rfl);obtain⟨b0,bf⟩:=aC (wH.out.blk 0 rfl);rw [wR.out.kind]at x0;rw [wR.out.key]at x3 x4 x5;rw [wR.out.save]at x17;rw [wR.out.cursor]at x18;obtain⟨cb,hcb⟩:∃cb,bL s=cb:=⟨_,rfl⟩;rw [hcb]at HE;have B9:=FH (show cb=(decide (1≤s.cursor)&&decide (s.cursor≤2))from hcb.symm);clear hcb;go_upto_region 9 with fail
       go_cut [10] (fun dv wx=>dv = .bool cb∧Sat w (aB w) wx [blk bt #[.slice (some ⟨cg,cof,none⟩) c.length cc] bN,blk bs e.cells.toArray tSt])
       case first =>
        by_cases h1:1≤s.cursor
        ·by_cases h2:s.cursor≤2
         ·have hb:cb=true:=by rw [B9.out,F5 h1,F5 h2];rfl
          go_wp2_with fail;go_meet;exact⟨by rw [hb],wH.out⟩
         ·have hb:cb=false:=by rw [B9.out,F5 h1,FY h2];rfl
          go_wp2_with fail;go_meet;exact⟨by rw [hb],wH.out⟩
        ·have hb:cb=false:=by rw [B9.out,FY h1];rfl
         go_wp2_with fail;go_meet;exact⟨by rw [hb],wH.out⟩
       case rest =>
        obtain⟨rfl,hs10⟩:=hcut;clear wH x0 x2 x3 x4 x5 x6 x7 x17 x18 x19 z0 z1 z2 z3 z4 z5 z6 z7 z8 b0 bf;have wH:=FH hs10;clear hs10;obtain⟨x0,x2,x3,x4,x5,x6,x7,x17,x18,x19⟩:=aO (wH.out.blk 1 rfl);obtain⟨z0,z1,z2,z3,z4,z5,z6,z7,z8⟩:=bR (wH.out.blk 1 rfl);obtain⟨b0,bf⟩:=aC (wH.out.blk 0 rfl);rw [wR.out.kind]at x0;rw [wR.out.key]at x3 x4 x5;rw [wR.out.save]at x17;rw [wR.out.cursor]at x18;rcases gN s.kind with hk|hk|hk|hk|hk|hk|hk|hk|hk|hk|hk|hk|hk|hk|hk
        ·rw [hk]at x0
         by_cases h1:1≤s.save
         ·by_cases h2:s.save≤3
          ·go_wp2_with fail
           go_ret;exact⟨by rw [HR.out,HE.out];simp [okK,aU,hk,h1,h2],wH.out.end_ (PH.le.refl _)⟩
          ·go_wp2_with fail
           go_ret;exact⟨by rw [HR.out,HE.out];simp [okK,aU,hk,h1,h2],wH.out.end_ (PH.le.refl _)⟩
         ·go_wp2_with fail
          go_ret;exact⟨by rw [HR.out,HE.out];simp [okK,aU,hk];omega,wH.out.end_ (PH.le.refl _)⟩
        ·rw [hk]at x0
         by_cases h1:1≤s.save
         ·by_cases h2:s.save≤3
          ·go_wp2_with fail
           go_ret;exact⟨by rw [HR.out,HE.out];simp [okK,aU,hk,h1,h2],wH.out.end_ (PH.le.refl _)⟩
          ·go_wp2_with fail
           go_ret;exact⟨by rw [HR.out,HE.out];simp [okK,aU,hk,h1,h2],wH.out.end_ (PH.le.refl _)⟩
         ·go_wp2_with fail
          go_ret;exact⟨by rw [HR.out,HE.out];simp [okK,aU,hk];omega,wH.out.end_ (PH.le.refl _)⟩
        ·rw [hk]at x0
         cases kb<;>(go_wp2_with fail;go_ret;exact⟨by rw [HR.out,HE.out];simp [okK,aU,hk],wH.out.end_ (PH.le.refl _)⟩)
        ·rw [hk]at x0
         have yK:=FH (mW (xw.out.rd wH.out) (RdP.rd wR.out.row.1 wH.out));rw [xT.out]at yK;rw [xT.out]at x6;cases hft:aX c s.row<;>rw [hft]at yK
         ·go_wp2_with (go_at_call 35;refine yK.out.mono ?_;rintro e8 w8 ⟨rfl,hk8⟩;have xx:=FH (wH.out.kept hk8);clear hk8 yK wH x0 x2 x3 x4 x5 x6 x7 x17 x18 x19 z0 z1 z2 z3 z4 z5 z6 z7 z8 b0 bf)
          go_ret;exact⟨by rw [HR.out,HE.out];simp [okK,aU,hk,hft],xx.out.end_ (PH.le.refl _)⟩
         ·go_wp2_with (go_at_call 35;refine yK.out.mono ?_;rintro e8 w8 ⟨rfl,hk8⟩;have xx:=FH (wH.out.kept hk8);clear hk8 yK wH x0 x2 x3 x4 x5 x6 x7 x17 x18 x19 z0 z1 z2 z3 z4 z5 z6 z7 z8 b0 bf)
          go_ret;exact⟨by rw [HR.out,HE.out];simp [okK,aU,hk,hft],xx.out.end_ (PH.le.refl _)⟩
        ·rw [hk]at x0
         cases kb<;>cases sb<;>(go_wp2_with fail;go_ret;exact⟨by rw [HR.out,HE.out];simp [okK,aU,hk],wH.out.end_ (PH.le.refl _)⟩)
        ·rw [hk]at x0
         cases kb<;>(go_wp2_with fail;go_ret;exact⟨by rw [HR.out,HE.out];simp [okK,aU,hk],wH.out.end_ (PH.le.refl _)⟩)
        ·rw [hk]at x0
         cases pb<;>(go_wp2_with fail;go_ret;exact⟨by rw [HR.out,HE.out];simp [okK,aU,hk],wH.out.end_ (PH.le.refl _)⟩)
        ·rw [hk]at x0
         cases pb<;>cases sb<;>(go_wp2_with fail;go_ret;exact⟨by rw [HR.out,HE.out];simp [okK,aU,hk],wH.out.end_ (PH.le.refl _)⟩)
        ·rw [hk]at x0
         cases pb<;>(go_wp2_with fail;go_ret;exact⟨by rw [HR.out,HE.out];simp [okK,aU,hk],wH.out.end_ (PH.le.refl _)⟩)
        ·rw [hk]at x0
         cases pb
         ·go_wp2_with fail
          go_ret;exact⟨by rw [HR.out,HE.out];simp [okK,aU,hk],wH.out.end_ (PH.le.refl _)⟩
         ·cases cb
          ·go_wp2_with fail
           go_ret;exact⟨by rw [HR.out,HE.out];simp [okK,aU,hk],wH.out.end_ (PH.le.refl _)⟩
          ·have xl:=FH (qV e.pe wR.out.subs (by rw [wR.out.pred];exact AX.out) wH.out)
           rw [wR.out.pred]at xl;by_cases h13:s.pred.nodes.length≤13
           ·have h13':((s.pred.nodes.length:Int)≤13):=by omega
            generalize hnl:(s.pred.nodes.length:Int)=nl at xl h13';clear hnl;go_wp2_with (go_at_call 36;refine xl.out.mono ?_;rintro e8 w8 ⟨rfl,hs8⟩;have xx:=FH hs8;clear hs8 xl wH x0 x2 x3 x4 x5 x6 x7 x17 x18 x19 z0 z1 z2 z3 z4 z5 z6 z7 z8 b0 bf);go_ret;exact⟨by rw [HR.out,HE.out];simp [okK,aU,hk,h13],xx.out.end_ (PH.le.refl _)⟩
           ·have h13':((s.pred.nodes.length:Int)≤13)=False:=by simp;omega
            generalize hnl:(s.pred.nodes.length:Int)=nl at xl h13';clear hnl;go_wp2_with (go_at_call 36;refine xl.out.mono ?_;rintro e8 w8 ⟨rfl,hs8⟩;have xx:=FH hs8;clear hs8 xl wH x0 x2 x3 x4 x5 x6 x7 x17 x18 x19 z0 z1 z2 z3 z4 z5 z6 z7 z8 b0 bf);go_ret;exact⟨by rw [HR.out,HE.out];simp [okK,aU,hk,h13],xx.out.end_ (PH.le.refl _)⟩
        ·rw [hk]at x0
         cases cb<;>(go_wp2_with fail;go_ret;exact⟨by rw [HR.out,HE.out];simp [okK,aU,hk],wH.out.end_ (PH.le.refl _)⟩)
        ·rw [hk]at x0
         cases cb<;>(go_wp2_with fail;go_ret;exact⟨by rw [HR.out,HE.out];simp [okK,aU,hk],wH.out.end_ (PH.le.refl _)⟩)
        ·rw [hk]at x0
         cases cb<;>(go_wp2_with fail;go_ret;exact⟨by rw [HR.out,HE.out];simp [okK,aU,hk],wH.out.end_ (PH.le.refl _)⟩)
        ·rw [hk]at x0
         cases cb<;>(go_wp2_with fail;go_ret;exact⟨by rw [HR.out,HE.out];simp [okK,aU,hk],wH.out.end_ (PH.le.refl _)⟩)
        ·obtain⟨k4,k5,k6,k7,k8,k9,k10,k11,k12,k13,k14,k15,k16,k17⟩:=hk
         have hk:¬(14≤s.kind∧s.kind≤17):=by omega
         go_wp2_with fail;go_ret;exact⟨by rw [HR.out,HE.out];simp [okK,aU,hk,k4,k5,k6,k7,k8,k9,k10,k11,k12,k13],wH.out.end_ (PH.le.refl _)⟩
end Go.Proofs.YtdobimafhbfkhaaGreat
