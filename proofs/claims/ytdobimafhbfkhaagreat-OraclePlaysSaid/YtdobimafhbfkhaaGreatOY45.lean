/- The document's answer: may a statement be (ratlineref15.table, May). -/
import Derived.Test.YtdobimafhbfkhaaGreatOY44
import Derived.Test.YtdobimafhbfkhaaGreatOY43
import Derived.Test.YtdobimafhbfkhaaGreatOY34
set_option maxHeartbeats 64000000
namespace Go.Proofs.YtdobimafhbfkhaaGreat
open Go.ChangeShapes Go.WideShapes Go.ChangeAt Go.RowKit
set_option maxRecDepth 100000
set_option linter.unusedSimpArgs false
theorem oX {w:World}{g o:Nat}{cv:Value}(h:w.rangeAt g o [cv]):(loadVar bN ⟨g,o,none⟩).run Tryz.prog w = .ok (.agg #[cv]) w:=run_loadVar_mid w g o _ _ _ h Tryz.underlying66 rfl (by kernel_rfl)
theorem vC {w:World}{ao:Option Addr}{n cap k:Nat}{xs:List Value}{u:Value}(h:Rd w 1 (.slice ao n cap) n xs)(hu:xs[k]?=some u)(hk:k<n):∃g og,ao=some ⟨g,og,none⟩∧w.cell? ⟨g,og+k,none⟩=some u:=by
 rcases h.2.2 with ⟨_,_,hv,_,_,_,hcell⟩
 cases hv;rcases hcell with h0|⟨g,o,hg,hcc⟩
 ·omega
 ·exact⟨g,o,hg,hcc k _ hu⟩
def isT (cols:List (List Bool))(s:StmM):Bool:=decide (0≤s.table)&&decide (s.table<(cols.length:Int))&&cj (cols.getD s.table.toNat [])
def TabAns (B:World)(D:PH)(l:List HP)(cols:List (List Bool))(s:StmM)(e:Ending)(w':World):Prop:=∃ca cn cc,e = .returned (.tuple #[.agg #[.slice ca cn cc],.bool (isT cols s)])∧(isT cols s=true→∃(i:Nat) (c:List Bool),s.table=(i:Int)∧cols[i]?=some c∧cj c=true∧cn=c.length∧RdP D 1 (.slice ca cn cc) c.length (c.flatMap dt))∧Sat B D w' l
theorem tP {B w:World}{D:PH}{l:List HP}{tv:Value}{cols:List (List Bool)}{e:StmE}{s:StmM}(ht:TblsAt D tv cols)(he:e.table=s.table)(h:Sat B D w l) :
  Calls Tryz.prog 25 #[tv,.agg e.cells.toArray] w (TabAns B D l cols s):=by
 obtain⟨W0,hW0,h0⟩:∃W,W=(w.alloc (.cells e.cells.toArray tSt)).alloc (.cells #[.slice none 0 0] bN)∧Sat B D W (blk (w.heap.size+1) #[.slice none 0 0] bN::blk w.heap.size e.cells.toArray tSt::l):=by
  have h1:=(h.alloc e.cells.toArray tSt).alloc #[.slice none 0 0] bN;rw [World.size_alloc]at h1;exact⟨_,rfl,h1⟩
 have xh:=FH hW0;obtain⟨us,hu1,hu2,hu3,hu4⟩:=ht;obtain⟨ta,tc,rfl⟩:=hu3.shape;have HU:=FH (And.intro hu1 hu4);have zo:=FH hu3;have wS:=FH h0;have xN:=FH he;obtain⟨rb,hrb⟩:∃b,isT cols s=b:=⟨_,rfl⟩;have HR:=FH hrb;generalize hTN:cols.length=TN at *;have yU:=FH hTN;clear hW0 hu1 hu2 hu3 hu4 he h h0 hrb hTN;go_enter Tryz.func25,Tryz.ntmps25;go_upto_region 1 with fail
 rw [←xh.out];clear xh;generalize w.heap.size+1=bt at wS ⊢;generalize w.heap.size=bs at wS ⊢;obtain⟨x0,x2,x3,x4,x5,x6,x7,x17,x18,x19⟩:=aO (wS.out.blk 1 rfl);obtain⟨b0,bf⟩:=aC (wS.out.blk 0 rfl);rw [xN.out]at x2;clear x0 x3 x4 x5 x6 x7 x17 x18 x19;by_cases hr1:0≤s.table
 case neg =>
  have HE:=FH (show isT cols s=false by unfold isT;rw [FY hr1];rfl);have hr3:s.table<0:=by omega
  go_upto_region 2 with fail
  go_wp2_with (refine ah rfl _ _ _ rfl bN bt rfl [.slice none 0 0] rfl _ wS.out (by kernel_rfl) rfl (by intro u hu;simp at hu;subst hu;rfl) ?_;intro w5 hs5;have wT:=FH hs5;clear hs5 wS x2 b0 bf);refine bodyPost_ret (bZ rfl _ _ rfl (oX (aj (wT.out.blk 0 rfl)))) rfl ?_;exact⟨none,0,0,by rw [HE.out];rfl,fun h=>(by rw [HE.out]at h;cases h),wT.out.drop.drop⟩
 by_cases hr2:s.table<(TN:Int)
 case neg =>
  have HE:=FH (show isT cols s=false by unfold isT;rw [yU.out,FY hr2,Bool.and_false];rfl);have hr3:¬s.table<0:=by omega
  have hr4:(TN:Int)≤s.table:=by omega
  go_upto_region 2 with fail
  go_wp2_with (refine ah rfl _ _ _ rfl bN bt rfl [.slice none 0 0] rfl _ wS.out (by kernel_rfl) rfl (by intro u hu;simp at hu;subst hu;rfl) ?_;intro w5 hs5;have wT:=FH hs5;clear hs5 wS x2 b0 bf);refine bodyPost_ret (bZ rfl _ _ rfl (oX (aj (wT.out.blk 0 rfl)))) rfl ?_;exact⟨none,0,0,by rw [HE.out];rfl,fun h=>(by rw [HE.out]at h;cases h),wT.out.drop.drop⟩
 obtain⟨i,hi⟩:∃i:Nat,s.table=(i:Int):=⟨s.table.toNat,by omega⟩;have HI:=FH hi;rw [hi]at x2 hr2;have hiN:i<TN:=by omega
 obtain⟨c,hc⟩:∃c,cols[i]?=some c:=⟨cols[i]'(by rw [yU.out];exact hiN),FP _⟩;obtain⟨cv,hcv⟩:∃cv,us[i]?=some cv:=⟨us[i]'(by rw [HU.out.1];exact hiN),FP _⟩;have hcol:=HU.out.2 i cv c hcv hc;obtain⟨ca,cc,rfl⟩:=hcol.shape;obtain⟨tg,tof,hta,_⟩:=vC (zo.out.rd wS.out) hcv (by omega);have Bb:=FH (show ∀W L,Sat B D W L→W.cell? ⟨tg,tof+i,none⟩=some (.slice ca c.length cc)from fun W L hs=>by
  obtain⟨g,og,hg,h⟩:=vC (zo.out.rd hs) hcv (by omega);rw [hta]at hg;cases hg;exact h)
 subst hta;have htc:=Bb.out W0 _ wS.out;have HE:=FH (show isT cols s=cj c by
  unfold isT;rw [HI.out,yU.out,F5 (show(0:Int)≤(i:Int) by omega),F5 hr2,F6,FW,hc]
  rfl)
 have HC:=FH hc;have xw:=FH hcol;have yx:=FH (lp (xw.out.rd wS.out));clear hc hcv hcol hr1 hi;go_upto_region 4 with (go_at_call 38;refine yx.out.mono ?_;rintro e1 w1 ⟨rfl,hk1⟩;have wG:=FH (wS.out.kept hk1);clear hk1 yx wS x2 b0 bf htc)
 obtain⟨x0,x2,x3,x4,x5,x6,x7,x17,x18,x19⟩:=aO (wG.out.blk 1 rfl);obtain⟨b0,bf⟩:=aC (wG.out.blk 0 rfl);rw [xN.out,HI.out]at x2;have htc:=Bb.out w1 _ wG.out;clear x0 x3 x4 x5 x6 x7 x17 x18 x19;go_wp2_with (refine ah rfl _ _ _ rfl bN bt rfl [.slice ca c.length cc] rfl _ wG.out (by kernel_rfl) rfl (by intro u hu;simp at hu;subst hu;rfl) ?_;intro w5 hs5;have wT:=FH hs5;clear hs5 wG x2 b0 bf htc);refine bodyPost_ret (bZ rfl _ _ rfl (oX (aj (wT.out.blk 0 rfl)))) rfl ?_;exact⟨ca,c.length,cc,by rw [HE.out];rfl,fun h=>⟨i,c,HI.out,HC.out,by rw [←HE.out];exact h,rfl,xw.out⟩,wT.out.drop.drop⟩
theorem ul {w:World}{tv:Value}{cols:List (List Bool)}{e:StmE}{s:StmM}(ht:TblsAt (aB w) tv cols)(hs:StmOk (aB w) e s)(hn:s.pred.nodes.length≤1000000) :
  Calls Tryz.prog 11 #[tv,.agg e.cells.toArray] w fun r w'=>r = .returned (.bool (okS cols s))∧Kept (fun _=>False) w w':=by
 obtain⟨W0,hW0,h0⟩:∃W,W=w.alloc (.cells e.cells.toArray tSt)∧Sat w (aB w) W [blk w.heap.size e.cells.toArray tSt]:=⟨_,rfl,(Sat.start w).alloc _ _⟩;have xh:=FH hW0;have HT:=FH ht;have wR:=FH hs;have AX:=FH hn;have wS:=FH h0;obtain⟨rr,hrr⟩:∃rr,okS cols s=rr:=⟨_,rfl⟩;rw [hrr];have HR:=FH hrr;clear hW0 ht hs hn h0 hrr;go_enter Tryz.func11,Tryz.ntmps11;go_upto_region 1 with fail
 rw [←xh.out];clear xh;generalize w.heap.size=bs at wS ⊢;have yH:=FH (fp (aj (wS.out.blk 0 rfl)));have Ar:=FH (tP HT.out wR.out.table wS.out);obtain⟨ib,hib⟩:∃b,isT cols s=b:=⟨_,rfl⟩;have EL:=FH hib;clear hib
 go_cut [5,6] (fun tv bv wx=>∃(bt:Nat) (ca:Option Addr) (cn cc:Nat),tv = .pointer (some ⟨bt,0,none⟩)∧bv = .bool ib∧Sat w (aB w) wx [blk bt #[.slice ca cn cc] bN,blk bs e.cells.toArray tSt]∧(ib=true→∃(i:Nat) (c:List Bool),s.table=(i:Int)∧cols[i]?=some c∧cj c=true∧cn=c.length∧RdP (aB w) 1 (.slice ca cn cc) c.length (c.flatMap dt)))
 case first =>
  go_wp2_with (first|(refine aV rfl _ _ rfl _ _ rfl _ yH.out ?_)|(go_at_call 25;refine Ar.out.mono ?_;rintro e1 w1 ⟨ca,cn,cc,rfl,hyes,hs1⟩;rw [EL.out]at hyes ⊢;have HY:=FH hyes;have wG:=FH (hs1.alloc #[.slice none 0 0] bN);clear hyes hs1 Ar yH wS)|(refine ah rfl _ _ _ rfl bN w1.heap.size rfl [.slice ca cn cc] rfl _ wG.out (by kernel_rfl) rfl (by intro u hu;simp at hu;subst hu;rfl) ?_;intro w5 hs5;have wT:=FH hs5;clear hs5 wG));go_meet;exact⟨w1.heap.size,ca,cn,cc,rfl,rfl,wT.out,HY.out⟩
 case rest =>
  obtain⟨bt,ca,cn,cc,rfl,rfl,hs1,hy⟩:=hcut;have wG:=FH hs1;have HY:=FH hy;have xH:=FH (i7 s.key wc);obtain⟨vr,hvr⟩:∃vr,am s.key=vr:=⟨_,rfl⟩;rw [hvr]at xH;have DN:=FH hvr;clear hvr;clear hs1 hy wS yH Ar;obtain⟨x0,x2,x3,x4,x5,x6,x7,x17,x18,x19⟩:=aO (wG.out.blk 1 rfl);obtain⟨z0,z1,z2,z3,z4,z5,z6,z7,z8⟩:=bR (wG.out.blk 1 rfl);obtain⟨b0,bf⟩:=aC (wG.out.blk 0 rfl);rw [wR.out.kind]at x0;rw [wR.out.key]at x3 x4 x5;rw [wR.out.save]at x17;rw [wR.out.cursor]at x18;go_upto_region 3 with (go_at_call 26;refine xH.out.mono ?_;rintro e2 w2 ⟨rfl,hk2⟩;have wJ:=FH (wG.out.kept hk2);clear hk2 xH wG x0 x2 x3 x4 x5 x6 x7 x17 x18 x19 z0 z1 z2 z3 z4 z5 z6 z7 z8 b0 bf)
  obtain⟨x0,x2,x3,x4,x5,x6,x7,x17,x18,x19⟩:=aO (wJ.out.blk 1 rfl);obtain⟨z0,z1,z2,z3,z4,z5,z6,z7,z8⟩:=bR (wJ.out.blk 1 rfl);obtain⟨b0,bf⟩:=aC (wJ.out.blk 0 rfl);rw [wR.out.kind]at x0;rw [wR.out.key]at x3 x4 x5;rw [wR.out.save]at x17;rw [wR.out.cursor]at x18;cases ib with
  | false =>
   have HE:=FH (oz EL.out)
   go_cut [8] (fun kv wx=>kv = .bool false∧Sat w (aB w) wx [blk bt #[.slice ca cn cc] bN,blk bs e.cells.toArray tSt])
   case first =>
    refine aH [rq 0 999,rq 1 999,rq 2 999,rq 3 999,rq 4 999,rq 5 999,rq 6 999,rq 7 999,rq 8 999,rq 9 999,rq 10 999,rq 11 999,rq 12 999,rq 13 999,rq 14 999] ?_;(iterate 15 (first|(refine ax rfl rfl ?_;simp only [Act.put,FI,FJ,FK,FL,FM,FN])|((first|refine ae rfl rfl (fun K hK=>?_)|refine ar rfl rfl fun K hK=>?_);go_simp;apply hK;clear hK K)));refine ag ?_;go_wp2_with fail;go_meet;exact⟨rfl,wJ.out.drew⟩
   case rest =>
    obtain⟨rfl,hs3⟩:=hcut;have wH:=FH hs3;clear hs3 wJ x0 x2 x3 x4 x5 x6 x7 x17 x18 x19 z0 z1 z2 z3 z4 z5 z6 z7 z8 b0 bf;obtain⟨x0,x2,x3,x4,x5,x6,x7,x17,x18,x19⟩:=aO (wH.out.blk 1 rfl);obtain⟨z0,z1,z2,z3,z4,z5,z6,z7,z8⟩:=bR (wH.out.blk 1 rfl);obtain⟨b0,bf⟩:=aC (wH.out.blk 0 rfl);rw [wR.out.kind]at x0;rw [wR.out.key]at x3 x4 x5;rw [wR.out.save]at x17;rw [wR.out.cursor]at x18;rcases gN s.kind with hk|hk|hk|hk|hk|hk|hk|hk|hk|hk|hk|hk|hk|hk|hk
    ·rw [hk]at x0
     by_cases h1:1≤s.save
     ·by_cases h2:s.save≤3
      ·go_wp2_with fail
       go_ret;exact⟨by rw [←HR.out,HE.out];simp [okK,aU,bL,hk,h1,h2],wH.out.end_ (PH.le.refl _)⟩
      ·go_wp2_with fail
       go_ret;exact⟨by rw [←HR.out,HE.out];simp [okK,aU,bL,hk,h1,h2],wH.out.end_ (PH.le.refl _)⟩
     ·go_wp2_with fail
      go_ret;exact⟨by rw [←HR.out,HE.out];simp [okK,aU,bL,hk];omega,wH.out.end_ (PH.le.refl _)⟩
    ·rw [hk]at x0
     by_cases h1:1≤s.save
     ·by_cases h2:s.save≤3
      ·go_wp2_with fail
       go_ret;exact⟨by rw [←HR.out,HE.out];simp [okK,aU,bL,hk,h1,h2],wH.out.end_ (PH.le.refl _)⟩
      ·go_wp2_with fail
       go_ret;exact⟨by rw [←HR.out,HE.out];simp [okK,aU,bL,hk,h1,h2],wH.out.end_ (PH.le.refl _)⟩
     ·go_wp2_with fail
      go_ret;exact⟨by rw [←HR.out,HE.out];simp [okK,aU,bL,hk];omega,wH.out.end_ (PH.le.refl _)⟩
    ·rw [hk]at x0
     go_wp2_with fail;go_ret;exact⟨by rw [←HR.out,HE.out];simp [okK,aU,bL,hk],wH.out.end_ (PH.le.refl _)⟩
    ·rw [hk]at x0
     go_wp2_with fail;go_ret;exact⟨by rw [←HR.out,HE.out];simp [okK,aU,bL,hk],wH.out.end_ (PH.le.refl _)⟩
    ·rw [hk]at x0
     go_wp2_with fail;go_ret;exact⟨by rw [←HR.out,HE.out];simp [okK,aU,bL,hk],wH.out.end_ (PH.le.refl _)⟩
    ·rw [hk]at x0
     go_wp2_with fail;go_ret;exact⟨by rw [←HR.out,HE.out];simp [okK,aU,bL,hk],wH.out.end_ (PH.le.refl _)⟩
    ·rw [hk]at x0
     go_wp2_with fail;go_ret;exact⟨by rw [←HR.out,HE.out];simp [okK,aU,bL,hk],wH.out.end_ (PH.le.refl _)⟩
    ·rw [hk]at x0
     go_wp2_with fail;go_ret;exact⟨by rw [←HR.out,HE.out];simp [okK,aU,bL,hk],wH.out.end_ (PH.le.refl _)⟩
    ·rw [hk]at x0
     go_wp2_with fail;go_ret;exact⟨by rw [←HR.out,HE.out];simp [okK,aU,bL,hk],wH.out.end_ (PH.le.refl _)⟩
    ·rw [hk]at x0
     go_wp2_with fail;go_ret;exact⟨by rw [←HR.out,HE.out];simp [okK,aU,bL,hk],wH.out.end_ (PH.le.refl _)⟩
    ·rw [hk]at x0
     by_cases h1:1≤s.cursor
     ·by_cases h2:s.cursor≤2
      ·go_wp2_with fail
       go_ret;exact⟨by rw [←HR.out,HE.out];simp [okK,aU,bL,hk,h1,h2],wH.out.end_ (PH.le.refl _)⟩
      ·go_wp2_with fail
       go_ret;exact⟨by rw [←HR.out,HE.out];simp [okK,aU,bL,hk,h1,h2],wH.out.end_ (PH.le.refl _)⟩
     ·go_wp2_with fail
      go_ret;exact⟨by rw [←HR.out,HE.out];simp [okK,aU,bL,hk];omega,wH.out.end_ (PH.le.refl _)⟩
    ·rw [hk]at x0
     by_cases h1:1≤s.cursor
     ·by_cases h2:s.cursor≤2
      ·go_wp2_with fail
       go_ret;exact⟨by rw [←HR.out,HE.out];simp [okK,aU,bL,hk,h1,h2],wH.out.end_ (PH.le.refl _)⟩
      ·go_wp2_with fail
       go_ret;exact⟨by rw [←HR.out,HE.out];simp [okK,aU,bL,hk,h1,h2],wH.out.end_ (PH.le.refl _)⟩
     ·go_wp2_with fail
      go_ret;exact⟨by rw [←HR.out,HE.out];simp [okK,aU,bL,hk];omega,wH.out.end_ (PH.le.refl _)⟩
    ·rw [hk]at x0
     by_cases h1:1≤s.cursor
     ·by_cases h2:s.cursor≤2
      ·go_wp2_with fail
       go_ret;exact⟨by rw [←HR.out,HE.out];simp [okK,aU,bL,hk,h1,h2],wH.out.end_ (PH.le.refl _)⟩
      ·go_wp2_with fail
       go_ret;exact⟨by rw [←HR.out,HE.out];simp [okK,aU,bL,hk,h1,h2],wH.out.end_ (PH.le.refl _)⟩
     ·go_wp2_with fail
      go_ret;exact⟨by rw [←HR.out,HE.out];simp [okK,aU,bL,hk];omega,wH.out.end_ (PH.le.refl _)⟩
    ·rw [hk]at x0
     by_cases h1:1≤s.cursor
     ·by_cases h2:s.cursor≤2
      ·go_wp2_with fail
       go_ret;exact⟨by rw [←HR.out,HE.out];simp [okK,aU,bL,hk,h1,h2],wH.out.end_ (PH.le.refl _)⟩
      ·go_wp2_with fail
       go_ret;exact⟨by rw [←HR.out,HE.out];simp [okK,aU,bL,hk,h1,h2],wH.out.end_ (PH.le.refl _)⟩
     ·go_wp2_with fail
      go_ret;exact⟨by rw [←HR.out,HE.out];simp [okK,aU,bL,hk];omega,wH.out.end_ (PH.le.refl _)⟩
    ·obtain⟨k4,k5,k6,k7,k8,k9,k10,k11,k12,k13,k14,k15,k16,k17⟩:=hk
     have hk:¬(14≤s.kind∧s.kind≤17):=by omega
     have q4:(s.kind == 4)=false:=by simpa using k4
     have q5:(s.kind == 5)=false:=by simpa using k5
     have q6:(s.kind == 6)=false:=by simpa using k6
     have q7:(s.kind == 7)=false:=by simpa using k7
     have q8:(s.kind == 8)=false:=by simpa using k8
     have q9:(s.kind == 9)=false:=by simpa using k9
     have q10:(s.kind == 10)=false:=by simpa using k10
     have q11:(s.kind == 11)=false:=by simpa using k11
     have q12:(s.kind == 12)=false:=by simpa using k12
     have q13:(s.kind == 13)=false:=by simpa using k13
     have q14:(s.kind == 14)=false:=by simpa using k14
     have q15:(s.kind == 15)=false:=by simpa using k15
     have q16:(s.kind == 16)=false:=by simpa using k16
     have q17:(s.kind == 17)=false:=by simpa using k17
     go_wp2_with fail;go_ret;exact⟨by rw [←HR.out,HE.out];simp [okK,aU,bL,hk,k4,k5,k6,k7,k8,k9,k10,k11,k12,k13],wH.out.end_ (PH.le.refl _)⟩
  | true =>
   obtain⟨i,c,hi,hc,hm,rfl,hcol⟩:=HY.out rfl;have HE:=FH (show okS cols s=_ from oV hi hc hm);have HM:=FH hm;have xw:=FH hcol;obtain⟨c0,hc0⟩:∃c0,c[0]?=some c0:=⟨c[0]'(by unfold cj at hm;simp at hm;omega),FP _⟩;have A3:=FH (show c.getD 0 false=c0 by rw [FW,hc0];rfl);rw [A3.out,DN.out]at HE;have hcl:0<c.length:=(FO.1 hc0).1;have hcl2:(0:Int)<(c.length:Int):=by omega
   obtain⟨cg,cof,rfl⟩:=fq (xw.out.rd wJ.out) hc0 rfl;have hcz:=dZ (xw.out.rd wJ.out.drew) hc0;rw [Nat.add_zero]at hcz;obtain⟨kb,hkb⟩:∃kb,(vr&&decide (s.key.t=c0))=kb:=⟨_,rfl⟩;rw [hkb]at HE;have BE:=FH hkb;clear hi hc hm hcol hc0 hkb
   go_cut [8] (fun kv wx=>kv = .bool kb∧Sat w (aB w) wx [blk bt #[.slice (some ⟨cg,cof,none⟩) c.length cc] bN,blk bs e.cells.toArray tSt])
   case first =>
    cases vr
    ·have yG:=FH (show kb=false by rw [←BE.out];rfl)
     refine aH [rq 0 999,rq 1 999,rq 2 999,rq 3 999,rq 4 999,rq 5 999,rq 6 999,rq 7 999,rq 8 999,rq 9 999,rq 10 999,rq 11 999,rq 12 999,rq 13 999,rq 14 999] ?_;(iterate 15 (first|(refine ax rfl rfl ?_;simp only [Act.put,FI,FJ,FK,FL,FM,FN])|((first|refine ae rfl rfl (fun K hK=>?_)|refine ar rfl rfl fun K hK=>?_);go_simp;apply hK;clear hK K)));refine ag ?_;go_wp2_with fail;go_meet;exact⟨by rw [yG.out],wJ.out.drew⟩
    ·have yG:=FH (show kb=(s.key.t == c0) by rw [←BE.out];rfl)
     refine aH [rq 0 999,rq 1 999,rq 2 999,rq 3 999,rq 4 999,rq 5 999,rq 6 999,rq 7 999,rq 8 999,rq 9 999,rq 10 999,rq 11 999,rq 12 999,rq 13 999,rq 14 999] ?_;(iterate 15 (first|(refine ax rfl rfl ?_;simp only [Act.put,FI,FJ,FK,FL,FM,FN])|((first|refine ae rfl rfl (fun K hK=>?_)|refine ar rfl rfl fun K hK=>?_);go_simp;apply hK;clear hK K)));refine ag ?_;go_wp2_with fail;go_meet;exact⟨by rw [yG.out],wJ.out.drew⟩
   case rest =>
    obtain⟨rfl,hs3⟩:=hcut;have wH:=FH hs3;clear hs3 wJ hcz x0 x2 x3 x4 x5 x6 x7 x17 x18 x19 z0 z1 z2 z3 z4 z5 z6 z7 z8 b0 bf;obtain⟨x0,x2,x3,x4,x5,x6,x7,x17,x18,x19⟩:=aO (wH.out.blk 1 rfl);obtain⟨z0,z1,z2,z3,z4,z5,z6,z7,z8⟩:=bR (wH.out.blk 1 rfl);obtain⟨b0,bf⟩:=aC (wH.out.blk 0 rfl);rw [wR.out.kind]at x0;rw [wR.out.key]at x3 x4 x5;rw [wR.out.save]at x17;rw [wR.out.cursor]at x18;obtain⟨pb,hpb⟩:∃pb,bY c s.pred=pb:=⟨_,rfl⟩;obtain⟨sb,hsb⟩:∃sb,cG c s.sets=sb:=⟨_,rfl⟩;obtain⟨fb,hfb⟩:∃fb,aX c s.row=fb:=⟨_,rfl⟩;rw [hpb,hsb,hfb]at HE;have zh:=FH (show ∀W,Sat w (aB w) W [blk bt #[.slice (some ⟨cg,cof,none⟩) c.length cc] bN,blk bs e.cells.toArray tSt]→Calls Tryz.prog 29 #[.agg #[.slice (some ⟨cg,cof,none⟩) c.length cc],.agg e.pe.cells.toArray] W fun r w'=>r = .returned (.bool pb)∧Kept (fun _=>False) W w' from fun W hs=>by
     rw [←hpb,←wR.out.pred];exact wh e.pe (xw.out.rd hs) HM.out (wR.out.subs.rd hs) (by rw [wR.out.pred];exact AX.out))
    have xF:=FH (show ∀W,Sat w (aB w) W [blk bt #[.slice (some ⟨cg,cof,none⟩) c.length cc] bN,blk bs e.cells.toArray tSt]→Calls Tryz.prog 28 #[.agg #[.slice (some ⟨cg,cof,none⟩) c.length cc],.slice e.sets.ro e.sets.rn e.sets.rc] W fun r w'=>r = .returned (.bool sb)∧Kept (fun _=>False) W w' from fun W hs=>by
     rw [←hsb];exact lM HM.out (xw.out.rd hs) (RdP.rd wR.out.sets.1 hs))
    have xT:=FH (show e.row.v = .slice e.row.ro e.row.rn e.row.rc from rfl);have BG:=FH (show e.sets.v = .slice e.sets.ro e.sets.rn e.sets.rc from rfl);rw [BG.out]at x7;clear hpb hsb;rcases gN s.kind with hk|hk|hk|hk|hk|hk|hk|hk|hk|hk|hk|hk|hk|hk|hk
    ·rw [hk]at x0
     by_cases h1:1≤s.save
     ·by_cases h2:s.save≤3
      ·go_wp2_with fail
       go_ret;exact⟨by rw [←HR.out,HE.out];simp [okK,aU,bL,hk,h1,h2],wH.out.end_ (PH.le.refl _)⟩
      ·go_wp2_with fail
       go_ret;exact⟨by rw [←HR.out,HE.out];simp [okK,aU,bL,hk,h1,h2],wH.out.end_ (PH.le.refl _)⟩
     ·go_wp2_with fail
      go_ret;exact⟨by rw [←HR.out,HE.out];simp [okK,aU,bL,hk];omega,wH.out.end_ (PH.le.refl _)⟩
    ·rw [hk]at x0
     by_cases h1:1≤s.save
     ·by_cases h2:s.save≤3
      ·go_wp2_with fail
       go_ret;exact⟨by rw [←HR.out,HE.out];simp [okK,aU,bL,hk,h1,h2],wH.out.end_ (PH.le.refl _)⟩
      ·go_wp2_with fail
       go_ret;exact⟨by rw [←HR.out,HE.out];simp [okK,aU,bL,hk,h1,h2],wH.out.end_ (PH.le.refl _)⟩
     ·go_wp2_with fail
      go_ret;exact⟨by rw [←HR.out,HE.out];simp [okK,aU,bL,hk];omega,wH.out.end_ (PH.le.refl _)⟩
    ·rw [hk]at x0
     go_wp2_with fail;go_ret;exact⟨by rw [←HR.out,HE.out];simp [okK,aU,bL,hk],wH.out.end_ (PH.le.refl _)⟩
    ·rw [hk]at x0
     have yK:=FH (pS (xw.out.rd wH.out) (RdP.rd wR.out.row.1 wH.out));rw [xT.out,hfb]at yK;rw [xT.out]at x6;go_wp2_with (go_at_call 27;refine yK.out.mono ?_;rintro e8 w8 ⟨rfl,hk8⟩;have xx:=FH (wH.out.kept hk8);clear hk8 wH x0 x2 x3 x4 x5 x6 x7 x17 x18 x19 z0 z1 z2 z3 z4 z5 z6 z7 z8 b0 bf yK);go_ret;exact⟨by rw [←HR.out,HE.out];simp [okK,aU,bL,hk],xx.out.end_ (PH.le.refl _)⟩
    ·rw [hk]at x0
     cases kb
     ·go_wp2_with fail
      go_ret;exact⟨by rw [←HR.out,HE.out];simp [okK,aU,bL,hk],wH.out.end_ (PH.le.refl _)⟩
     ·go_wp2_with (go_at_call 28;refine(xF.out _ wH.out).mono ?_;rintro e8 w8 ⟨rfl,hk8⟩;have xx:=FH (wH.out.kept hk8);clear hk8 wH x0 x2 x3 x4 x5 x6 x7 x17 x18 x19 z0 z1 z2 z3 z4 z5 z6 z7 z8 b0 bf)
      go_ret;exact⟨by rw [←HR.out,HE.out];simp [okK,aU,bL,hk],xx.out.end_ (PH.le.refl _)⟩
    ·rw [hk]at x0
     go_wp2_with fail;go_ret;exact⟨by rw [←HR.out,HE.out];simp [okK,aU,bL,hk],wH.out.end_ (PH.le.refl _)⟩
    ·rw [hk]at x0
     go_wp2_with (go_at_call 29;refine(zh.out _ wH.out).mono ?_;rintro e8 w8 ⟨rfl,hk8⟩;have xx:=FH (wH.out.kept hk8);clear hk8 wH x0 x2 x3 x4 x5 x6 x7 x17 x18 x19 z0 z1 z2 z3 z4 z5 z6 z7 z8 b0 bf);go_ret;exact⟨by rw [←HR.out,HE.out];simp [okK,aU,bL,hk],xx.out.end_ (PH.le.refl _)⟩
    ·rw [hk]at x0
     cases pb
     ·go_wp2_with (go_at_call 29;refine(zh.out _ wH.out).mono ?_;rintro e8 w8 ⟨rfl,hk8⟩;have xx:=FH (wH.out.kept hk8);clear hk8 wH x0 x2 x3 x4 x5 x6 x7 x17 x18 x19 z0 z1 z2 z3 z4 z5 z6 z7 z8 b0 bf)
      go_ret;exact⟨by rw [←HR.out,HE.out];simp [okK,aU,bL,hk],xx.out.end_ (PH.le.refl _)⟩
     ·go_wp2_with (first|(go_at_call 29;refine(zh.out _ wH.out).mono ?_;rintro e8 w8 ⟨rfl,hk8⟩;have xx:=FH (wH.out.kept hk8);clear hk8 wH x0 x2 x3 x4 x5 x6 x7 x17 x18 x19 z0 z1 z2 z3 z4 z5 z6 z7 z8 b0 bf;obtain⟨x0,x2,x3,x4,x5,x6,x7,x17,x18,x19⟩:=aO (xx.out.blk 1 rfl);obtain⟨z0,z1,z2,z3,z4,z5,z6,z7,z8⟩:=bR (xx.out.blk 1 rfl);obtain⟨b0,bf⟩:=aC (xx.out.blk 0 rfl);rw [wR.out.cursor]at x18;rw [BG.out]at x7)|(go_at_call 28;refine(xF.out _ xx.out).mono ?_;rintro e8 w8 ⟨rfl,hk8⟩;have xl:=FH (xx.out.kept hk8);clear hk8 xx x0 x2 x3 x4 x5 x6 x7 x17 x18 x19 z0 z1 z2 z3 z4 z5 z6 z7 z8 b0 bf))
      go_ret;exact⟨by rw [←HR.out,HE.out];simp [okK,aU,bL,hk],xl.out.end_ (PH.le.refl _)⟩
    ·rw [hk]at x0
     go_wp2_with (go_at_call 29;refine(zh.out _ wH.out).mono ?_;rintro e8 w8 ⟨rfl,hk8⟩;have xx:=FH (wH.out.kept hk8);clear hk8 wH x0 x2 x3 x4 x5 x6 x7 x17 x18 x19 z0 z1 z2 z3 z4 z5 z6 z7 z8 b0 bf);go_ret;exact⟨by rw [←HR.out,HE.out];simp [okK,aU,bL,hk],xx.out.end_ (PH.le.refl _)⟩
    ·rw [hk]at x0
     cases pb
     ·go_wp2_with (go_at_call 29;refine(zh.out _ wH.out).mono ?_;rintro e8 w8 ⟨rfl,hk8⟩;have xx:=FH (wH.out.kept hk8);clear hk8 wH x0 x2 x3 x4 x5 x6 x7 x17 x18 x19 z0 z1 z2 z3 z4 z5 z6 z7 z8 b0 bf)
      go_ret;exact⟨by rw [←HR.out,HE.out];simp [okK,aU,bL,hk],xx.out.end_ (PH.le.refl _)⟩
     ·have BC:=FH (show ∀W,Sat w (aB w) W [blk bt #[.slice (some ⟨cg,cof,none⟩) c.length cc] bN,blk bs e.cells.toArray tSt]→Calls Tryz.prog 30 #[.agg e.pe.cells.toArray] W fun r w'=>r = .returned (.int .i64 (s.pred.nodes.length:Int))∧Kept (fun _=>False) W w' from fun W hs=>lI s.pred e.pe W wR.out.pred AX.out (wR.out.subs.rd hs))
      generalize hnl:s.pred.nodes.length=nl at BC HE;by_cases h13:nl≤13
      ·have h13':(nl:Int)≤13:=by omega
       clear hnl;by_cases h1:1≤s.cursor
       ·by_cases h2:s.cursor≤2
        ·go_wp2_with (first|(go_at_call 29;refine(zh.out _ wH.out).mono ?_;rintro e8 w8 ⟨rfl,hk8⟩;have xx:=FH (wH.out.kept hk8);clear hk8 wH x0 x2 x3 x4 x5 x6 x7 x17 x18 x19 z0 z1 z2 z3 z4 z5 z6 z7 z8 b0 bf;obtain⟨x0,x2,x3,x4,x5,x6,x7,x17,x18,x19⟩:=aO (xx.out.blk 1 rfl);obtain⟨z0,z1,z2,z3,z4,z5,z6,z7,z8⟩:=bR (xx.out.blk 1 rfl);obtain⟨b0,bf⟩:=aC (xx.out.blk 0 rfl);rw [wR.out.cursor]at x18)|(go_at_call 30;refine(BC.out _ xx.out).mono ?_;rintro e8 w8 ⟨rfl,hk8⟩;have xl:=FH (xx.out.kept hk8);clear hk8 xx x0 x2 x3 x4 x5 x6 x7 x17 x18 x19 z0 z1 z2 z3 z4 z5 z6 z7 z8 b0 bf;obtain⟨x0,x2,x3,x4,x5,x6,x7,x17,x18,x19⟩:=aO (xl.out.blk 1 rfl);obtain⟨z0,z1,z2,z3,z4,z5,z6,z7,z8⟩:=bR (xl.out.blk 1 rfl);obtain⟨b0,bf⟩:=aC (xl.out.blk 0 rfl);rw [wR.out.cursor]at x18))
         go_ret;exact⟨by rw [←HR.out,HE.out];simp [okK,aU,bL,hk,h13,h1,h2],xl.out.end_ (PH.le.refl _)⟩
        ·go_wp2_with (first|(go_at_call 29;refine(zh.out _ wH.out).mono ?_;rintro e8 w8 ⟨rfl,hk8⟩;have xx:=FH (wH.out.kept hk8);clear hk8 wH x0 x2 x3 x4 x5 x6 x7 x17 x18 x19 z0 z1 z2 z3 z4 z5 z6 z7 z8 b0 bf;obtain⟨x0,x2,x3,x4,x5,x6,x7,x17,x18,x19⟩:=aO (xx.out.blk 1 rfl);obtain⟨z0,z1,z2,z3,z4,z5,z6,z7,z8⟩:=bR (xx.out.blk 1 rfl);obtain⟨b0,bf⟩:=aC (xx.out.blk 0 rfl);rw [wR.out.cursor]at x18)|(go_at_call 30;refine(BC.out _ xx.out).mono ?_;rintro e8 w8 ⟨rfl,hk8⟩;have xl:=FH (xx.out.kept hk8);clear hk8 xx x0 x2 x3 x4 x5 x6 x7 x17 x18 x19 z0 z1 z2 z3 z4 z5 z6 z7 z8 b0 bf;obtain⟨x0,x2,x3,x4,x5,x6,x7,x17,x18,x19⟩:=aO (xl.out.blk 1 rfl);obtain⟨z0,z1,z2,z3,z4,z5,z6,z7,z8⟩:=bR (xl.out.blk 1 rfl);obtain⟨b0,bf⟩:=aC (xl.out.blk 0 rfl);rw [wR.out.cursor]at x18))
         go_ret;exact⟨by rw [←HR.out,HE.out];simp [okK,aU,bL,hk,h13,h1,h2],xl.out.end_ (PH.le.refl _)⟩
       ·go_wp2_with (first|(go_at_call 29;refine(zh.out _ wH.out).mono ?_;rintro e8 w8 ⟨rfl,hk8⟩;have xx:=FH (wH.out.kept hk8);clear hk8 wH x0 x2 x3 x4 x5 x6 x7 x17 x18 x19 z0 z1 z2 z3 z4 z5 z6 z7 z8 b0 bf;obtain⟨x0,x2,x3,x4,x5,x6,x7,x17,x18,x19⟩:=aO (xx.out.blk 1 rfl);obtain⟨z0,z1,z2,z3,z4,z5,z6,z7,z8⟩:=bR (xx.out.blk 1 rfl);obtain⟨b0,bf⟩:=aC (xx.out.blk 0 rfl);rw [wR.out.cursor]at x18)|(go_at_call 30;refine(BC.out _ xx.out).mono ?_;rintro e8 w8 ⟨rfl,hk8⟩;have xl:=FH (xx.out.kept hk8);clear hk8 xx x0 x2 x3 x4 x5 x6 x7 x17 x18 x19 z0 z1 z2 z3 z4 z5 z6 z7 z8 b0 bf;obtain⟨x0,x2,x3,x4,x5,x6,x7,x17,x18,x19⟩:=aO (xl.out.blk 1 rfl);obtain⟨z0,z1,z2,z3,z4,z5,z6,z7,z8⟩:=bR (xl.out.blk 1 rfl);obtain⟨b0,bf⟩:=aC (xl.out.blk 0 rfl);rw [wR.out.cursor]at x18))
        go_ret;exact⟨by rw [←HR.out,HE.out];simp [okK,aU,bL,hk,h13];omega,xl.out.end_ (PH.le.refl _)⟩
      ·have h13':¬(nl:Int)≤13:=by omega
       clear hnl;go_wp2_with (first|(go_at_call 29;refine(zh.out _ wH.out).mono ?_;rintro e8 w8 ⟨rfl,hk8⟩;have xx:=FH (wH.out.kept hk8);clear hk8 wH x0 x2 x3 x4 x5 x6 x7 x17 x18 x19 z0 z1 z2 z3 z4 z5 z6 z7 z8 b0 bf;obtain⟨x0,x2,x3,x4,x5,x6,x7,x17,x18,x19⟩:=aO (xx.out.blk 1 rfl);obtain⟨z0,z1,z2,z3,z4,z5,z6,z7,z8⟩:=bR (xx.out.blk 1 rfl);obtain⟨b0,bf⟩:=aC (xx.out.blk 0 rfl);rw [wR.out.cursor]at x18)|(go_at_call 30;refine(BC.out _ xx.out).mono ?_;rintro e8 w8 ⟨rfl,hk8⟩;have xl:=FH (xx.out.kept hk8);clear hk8 xx x0 x2 x3 x4 x5 x6 x7 x17 x18 x19 z0 z1 z2 z3 z4 z5 z6 z7 z8 b0 bf;obtain⟨x0,x2,x3,x4,x5,x6,x7,x17,x18,x19⟩:=aO (xl.out.blk 1 rfl);obtain⟨z0,z1,z2,z3,z4,z5,z6,z7,z8⟩:=bR (xl.out.blk 1 rfl);obtain⟨b0,bf⟩:=aC (xl.out.blk 0 rfl);rw [wR.out.cursor]at x18));go_ret;exact⟨by rw [←HR.out,HE.out];simp [okK,aU,bL,hk,h13],xl.out.end_ (PH.le.refl _)⟩
    ·rw [hk]at x0
     by_cases h1:1≤s.cursor
     ·by_cases h2:s.cursor≤2
      ·go_wp2_with fail
       go_ret;exact⟨by rw [←HR.out,HE.out];simp [okK,aU,bL,hk,h1,h2],wH.out.end_ (PH.le.refl _)⟩
      ·go_wp2_with fail
       go_ret;exact⟨by rw [←HR.out,HE.out];simp [okK,aU,bL,hk,h1,h2],wH.out.end_ (PH.le.refl _)⟩
     ·go_wp2_with fail
      go_ret;exact⟨by rw [←HR.out,HE.out];simp [okK,aU,bL,hk];omega,wH.out.end_ (PH.le.refl _)⟩
    ·rw [hk]at x0
     by_cases h1:1≤s.cursor
     ·by_cases h2:s.cursor≤2
      ·go_wp2_with fail
       go_ret;exact⟨by rw [←HR.out,HE.out];simp [okK,aU,bL,hk,h1,h2],wH.out.end_ (PH.le.refl _)⟩
      ·go_wp2_with fail
       go_ret;exact⟨by rw [←HR.out,HE.out];simp [okK,aU,bL,hk,h1,h2],wH.out.end_ (PH.le.refl _)⟩
     ·go_wp2_with fail
      go_ret;exact⟨by rw [←HR.out,HE.out];simp [okK,aU,bL,hk];omega,wH.out.end_ (PH.le.refl _)⟩
    ·rw [hk]at x0
     by_cases h1:1≤s.cursor
     ·by_cases h2:s.cursor≤2
      ·go_wp2_with fail
       go_ret;exact⟨by rw [←HR.out,HE.out];simp [okK,aU,bL,hk,h1,h2],wH.out.end_ (PH.le.refl _)⟩
      ·go_wp2_with fail
       go_ret;exact⟨by rw [←HR.out,HE.out];simp [okK,aU,bL,hk,h1,h2],wH.out.end_ (PH.le.refl _)⟩
     ·go_wp2_with fail
      go_ret;exact⟨by rw [←HR.out,HE.out];simp [okK,aU,bL,hk];omega,wH.out.end_ (PH.le.refl _)⟩
    ·rw [hk]at x0
     by_cases h1:1≤s.cursor
     ·by_cases h2:s.cursor≤2
      ·go_wp2_with fail
       go_ret;exact⟨by rw [←HR.out,HE.out];simp [okK,aU,bL,hk,h1,h2],wH.out.end_ (PH.le.refl _)⟩
      ·go_wp2_with fail
       go_ret;exact⟨by rw [←HR.out,HE.out];simp [okK,aU,bL,hk,h1,h2],wH.out.end_ (PH.le.refl _)⟩
     ·go_wp2_with fail
      go_ret;exact⟨by rw [←HR.out,HE.out];simp [okK,aU,bL,hk];omega,wH.out.end_ (PH.le.refl _)⟩
    ·obtain⟨k4,k5,k6,k7,k8,k9,k10,k11,k12,k13,k14,k15,k16,k17⟩:=hk
     have hk:¬(14≤s.kind∧s.kind≤17):=by omega
     have q4:(s.kind == 4)=false:=by simpa using k4
     have q5:(s.kind == 5)=false:=by simpa using k5
     have q6:(s.kind == 6)=false:=by simpa using k6
     have q7:(s.kind == 7)=false:=by simpa using k7
     have q8:(s.kind == 8)=false:=by simpa using k8
     have q9:(s.kind == 9)=false:=by simpa using k9
     have q10:(s.kind == 10)=false:=by simpa using k10
     have q11:(s.kind == 11)=false:=by simpa using k11
     have q12:(s.kind == 12)=false:=by simpa using k12
     have q13:(s.kind == 13)=false:=by simpa using k13
     have q14:(s.kind == 14)=false:=by simpa using k14
     have q15:(s.kind == 15)=false:=by simpa using k15
     have q16:(s.kind == 16)=false:=by simpa using k16
     have q17:(s.kind == 17)=false:=by simpa using k17
     go_wp2_with fail;go_ret;exact⟨by rw [←HR.out,HE.out];simp [okK,aU,bL,hk,k4,k5,k6,k7,k8,k9,k10,k11,k12,k13],wH.out.end_ (PH.le.refl _)⟩
end Go.Proofs.YtdobimafhbfkhaaGreat
