/- Joined texts: The document's answer: may a statement be (ratlineref15.table, May). (printed by genoru.py) Whether any statement may be (OracleChecks): the walk. -/
import Derived.Test.YtdobimafhbfkhaaGreatOT54
import Derived.Test.YtdobimafhbfkhaaGreatOT53
import Derived.Test.YtdobimafhbfkhaaGreatOT43
import Derived.Test.YtdobimafhbfkhaaGreatOT50
set_option maxHeartbeats 64000000
namespace Go.Proofs.YtdobimafhbfkhaaGreat
open Go.ChangeShapes Go.WideShapes Go.ChangeAt Go.RowKit
set_option maxRecDepth 100000
set_option linter.unusedSimpArgs false
theorem mM {w:World}{g o:Nat}{cv:Value}(h:w.rangeAt g o [cv]):(loadVar aX ⟨g,o,none⟩).run Tryz.prog w = .ok (.agg #[cv]) w:=run_loadVar_mid w g o _ _ _ h Tryz.underlying66 rfl (by kernel_rfl)
theorem te {w:World}{ao:Option Addr}{n cap k:Nat}{xs:List Value}{u:Value}(h:Rd w 1 (.slice ao n cap) n xs)(hu:xs[k]?=some u)(hk:k<n):∃g og,ao=some ⟨g,og,none⟩∧w.cell? ⟨g,og+k,none⟩=some u:=by
 rcases h.2.2 with ⟨_,_,hv,_,_,_,hcell⟩
 cases hv
 rcases hcell with h0|⟨g,o,hg,hcc⟩
 ·omega
 ·exact⟨g,o,hg,hcc k _ hu⟩
def isT (cols:List (List Bool))(s:StmM):Bool:=decide (0≤s.table)&&decide (s.table<(cols.length:Int))&&cu (cols.getD s.table.toNat [])
def TabAns (B:World)(D:PH)(l:List HP)(cols:List (List Bool))(s:StmM)(e:Ending)(w':World):Prop:=∃ca cn cc,e = .returned (.tuple #[.agg #[.slice ca cn cc],.bool (isT cols s)])∧(isT cols s=true→∃(i:Nat) (c:List Bool),s.table=(i:Int)∧cols[i]?=some c∧cu c=true∧cn=c.length∧RdP D 1 (.slice ca cn cc) c.length (c.flatMap de))∧Sat B D w' l
theorem rB {B w:World}{D:PH}{l:List HP}{tv:Value}{cols:List (List Bool)}{e:StmE}{s:StmM}(ht:TblsAt D tv cols)(he:e.table=s.table)(h:Sat B D w l) :
  Calls Tryz.prog 25 #[tv,.agg e.cells.toArray] w (TabAns B D l cols s):=by
 obtain⟨W0,hW0,h0⟩:∃W,W=(w.alloc (.cells e.cells.toArray tSt)).alloc (.cells #[.slice none 0 0] aX)∧Sat B D W (blk (w.heap.size+1) #[.slice none 0 0] aX::blk w.heap.size e.cells.toArray tSt::l):=by
  have h1:=(h.alloc e.cells.toArray tSt).alloc #[.slice none 0 0] aX
  rw [World.size_alloc]at h1
  exact⟨_,rfl,h1⟩
 have uI:=CM hW0
 obtain⟨us,hu1,hu2,hu3,hu4⟩:=ht
 obtain⟨ta,tc,rfl⟩:=hu3.shape
 have HU:=CM (And.intro hu1 hu4)
 have xj:=CM hu3
 have uv:=CM h0
 have vK:=CM he
 obtain⟨rb,hrb⟩:∃b,isT cols s=b:=⟨_,rfl⟩
 have HR:=CM hrb
 generalize hTN:cols.length=TN at *
 have xu:=CM hTN
 clear hW0 hu1 hu2 hu3 hu4 he h h0 hrb hTN
 go_enter Tryz.func25,Tryz.ntmps25
 go_upto_region 1 with fail
 rw [←uI.out]
 clear uI
 generalize w.heap.size+1=bt at uv ⊢
 generalize w.heap.size=bs at uv ⊢
 obtain⟨x0,x2,x3,x4,x5,x6,x7,x17,x18,x19⟩:=bj (uv.out.blk 1 rfl)
 obtain⟨b0,bf⟩:=aq (uv.out.blk 0 rfl)
 rw [vK.out]at x2
 clear x0 x3 x4 x5 x6 x7 x17 x18 x19
 by_cases hr1:0≤s.table
 case neg =>
  have HE:=CM (show isT cols s=false by unfold isT;rw [decide_eq_false hr1];rfl)
  have hr3:s.table<0:=by omega
  go_upto_region 2 with fail
  go_wp2_with (refine br rfl _ _ _ rfl aX bt rfl [.slice none 0 0] rfl _ uv.out (by kernel_rfl) rfl (by intro u hu;simp at hu;subst hu;rfl) ?_;intro w5 hs5;have uA:=CM hs5;clear hs5 uv x2 b0 bf)
  refine bodyPost_ret (db rfl _ _ rfl (mM (aA (uA.out.blk 0 rfl)))) rfl ?_
  exact⟨none,0,0,by rw [HE.out];rfl,fun h=>(by rw [HE.out]at h;cases h),uA.out.drop.drop⟩
 by_cases hr2:s.table<(TN:Int)
 case neg =>
  have HE:=CM (show isT cols s=false by unfold isT;rw [xu.out,decide_eq_false hr2,Bool.and_false];rfl)
  have hr3:¬s.table<0:=by omega
  have hr4:(TN:Int)≤s.table:=by omega
  go_upto_region 2 with fail
  go_wp2_with (refine br rfl _ _ _ rfl aX bt rfl [.slice none 0 0] rfl _ uv.out (by kernel_rfl) rfl (by intro u hu;simp at hu;subst hu;rfl) ?_;intro w5 hs5;have uA:=CM hs5;clear hs5 uv x2 b0 bf)
  refine bodyPost_ret (db rfl _ _ rfl (mM (aA (uA.out.blk 0 rfl)))) rfl ?_
  exact⟨none,0,0,by rw [HE.out];rfl,fun h=>(by rw [HE.out]at h;cases h),uA.out.drop.drop⟩
 obtain⟨i,hi⟩:∃i:Nat,s.table=(i:Int):=⟨s.table.toNat,by omega⟩
 have HI:=CM hi
 rw [hi]at x2 hr2
 have hiN:i<TN:=by omega
 obtain⟨c,hc⟩:∃c,cols[i]?=some c:=⟨cols[i]'(by rw [xu.out];exact hiN),List.getElem?_eq_getElem _⟩
 obtain⟨cv,hcv⟩:∃cv,us[i]?=some cv:=⟨us[i]'(by rw [HU.out.1];exact hiN),List.getElem?_eq_getElem _⟩
 have hcol:=HU.out.2 i cv c hcv hc
 obtain⟨ca,cc,rfl⟩:=hcol.shape
 obtain⟨tg,tof,hta,_⟩:=te (xj.out.rd uv.out) hcv (by omega)
 have yS:=CM (show ∀W L,Sat B D W L→W.cell? ⟨tg,tof+i,none⟩=some (.slice ca c.length cc)from fun W L hs=>by
  obtain⟨g,og,hg,h⟩:=te (xj.out.rd hs) hcv (by omega)
  rw [hta]at hg
  cases hg
  exact h)
 subst hta
 have htc:=yS.out W0 _ uv.out
 have HE:=CM (show isT cols s=cu c by
  unfold isT
  rw [HI.out,xu.out,decide_eq_true (show(0:Int)≤(i:Int) by omega),decide_eq_true hr2,Int.toNat_natCast,List.getD_eq_getElem?_getD,hc]
  rfl)
 have HC:=CM hc
 have uU:=CM hcol
 have vV:=CM (mT (uU.out.rd uv.out))
 clear hc hcv hcol hr1 hi
 go_upto_region 4 with (go_at_call 38;refine vV.out.mono ?_;rintro e1 w1 ⟨rfl,hk1⟩;have uk:=CM (uv.out.kept hk1);clear hk1 vV uv x2 b0 bf htc)
 obtain⟨x0,x2,x3,x4,x5,x6,x7,x17,x18,x19⟩:=bj (uk.out.blk 1 rfl)
 obtain⟨b0,bf⟩:=aq (uk.out.blk 0 rfl)
 rw [vK.out,HI.out]at x2
 have htc:=yS.out w1 _ uk.out
 clear x0 x3 x4 x5 x6 x7 x17 x18 x19
 go_wp2_with (refine br rfl _ _ _ rfl aX bt rfl [.slice ca c.length cc] rfl _ uk.out (by kernel_rfl) rfl (by intro u hu;simp at hu;subst hu;rfl) ?_;intro w5 hs5;have uA:=CM hs5;clear hs5 uk x2 b0 bf htc)
 refine bodyPost_ret (db rfl _ _ rfl (mM (aA (uA.out.blk 0 rfl)))) rfl ?_
 exact⟨ca,c.length,cc,by rw [HE.out];rfl,fun h=>⟨i,c,HI.out,HC.out,by rw [←HE.out];exact h,rfl,uU.out⟩,uA.out.drop.drop⟩
theorem rN {w:World}{tv:Value}{cols:List (List Bool)}{e:StmE}{s:StmM}(ht:TblsAt (aD w) tv cols)(hs:StmOk (aD w) e s)(hn:s.pred.nodes.length≤1000000) :
  Calls Tryz.prog 11 #[tv,.agg e.cells.toArray] w fun r w'=>r = .returned (.bool (okS cols s))∧Kept (fun _=>False) w w':=by
 obtain⟨W0,hW0,h0⟩:∃W,W=w.alloc (.cells e.cells.toArray tSt)∧Sat w (aD w) W [blk w.heap.size e.cells.toArray tSt]:=⟨_,rfl,(Sat.start w).alloc _ _⟩
 have uI:=CM hW0
 have HT:=CM ht
 have uz:=CM hs
 have ye:=CM hn
 have uv:=CM h0
 obtain⟨rr,hrr⟩:∃rr,okS cols s=rr:=⟨_,rfl⟩
 rw [hrr]
 have HR:=CM hrr
 clear hW0 ht hs hn h0 hrr
 go_enter Tryz.func11,Tryz.ntmps11
 go_upto_region 1 with fail
 rw [←uI.out]
 clear uI
 generalize w.heap.size=bs at uv ⊢
 have vJ:=CM (eC (aA (uv.out.blk 0 rfl)))
 have xx:=CM (rB HT.out uz.out.table uv.out)
 obtain⟨ib,hib⟩:∃b,isT cols s=b:=⟨_,rfl⟩
 have Ce:=CM hib
 clear hib
 go_cut [5,6] (fun tv bv wx=>∃(bt:Nat) (ca:Option Addr) (cn cc:Nat),tv = .pointer (some ⟨bt,0,none⟩)∧bv = .bool ib∧Sat w (aD w) wx [blk bt #[.slice ca cn cc] aX,blk bs e.cells.toArray tSt]∧(ib=true→∃(i:Nat) (c:List Bool),s.table=(i:Int)∧cols[i]?=some c∧cu c=true∧cn=c.length∧RdP (aD w) 1 (.slice ca cn cc) c.length (c.flatMap de)))
 case first =>
  go_wp2_with (first|(refine bG rfl _ _ rfl _ _ rfl _ vJ.out ?_)|(go_at_call 25;refine xx.out.mono ?_;rintro e1 w1 ⟨ca,cn,cc,rfl,hyes,hs1⟩;rw [Ce.out]at hyes ⊢;have HY:=CM hyes;have uk:=CM (hs1.alloc #[.slice none 0 0] aX);clear hyes hs1 xx vJ uv)|(refine br rfl _ _ _ rfl aX w1.heap.size rfl [.slice ca cn cc] rfl _ uk.out (by kernel_rfl) rfl (by intro u hu;simp at hu;subst hu;rfl) ?_;intro w5 hs5;have uA:=CM hs5;clear hs5 uk))
  go_meet
  exact⟨w1.heap.size,ca,cn,cc,rfl,rfl,uA.out,HY.out⟩
 case rest =>
  obtain⟨bt,ca,cn,cc,rfl,rfl,hs1,hy⟩:=hcut
  have uk:=CM hs1
  have HY:=CM hy
  have uY:=CM (gW s.key wc)
  obtain⟨vr,hvr⟩:∃vr,am s.key=vr:=⟨_,rfl⟩
  rw [hvr]at uY
  have Be:=CM hvr
  clear hvr
  clear hs1 hy uv vJ xx
  obtain⟨x0,x2,x3,x4,x5,x6,x7,x17,x18,x19⟩:=bj (uk.out.blk 1 rfl)
  obtain⟨z0,z1,z2,z3,z4,z5,z6,z7,z8⟩:=bX (uk.out.blk 1 rfl)
  obtain⟨b0,bf⟩:=aq (uk.out.blk 0 rfl)
  rw [uz.out.kind]at x0
  rw [uz.out.key]at x3 x4 x5
  rw [uz.out.save]at x17
  rw [uz.out.cursor]at x18
  go_upto_region 3 with (go_at_call 26;refine uY.out.mono ?_;rintro e2 w2 ⟨rfl,hk2⟩;have ur:=CM (uk.out.kept hk2);clear hk2 uY uk x0 x2 x3 x4 x5 x6 x7 x17 x18 x19 z0 z1 z2 z3 z4 z5 z6 z7 z8 b0 bf)
  obtain⟨x0,x2,x3,x4,x5,x6,x7,x17,x18,x19⟩:=bj (ur.out.blk 1 rfl)
  obtain⟨z0,z1,z2,z3,z4,z5,z6,z7,z8⟩:=bX (ur.out.blk 1 rfl)
  obtain⟨b0,bf⟩:=aq (ur.out.blk 0 rfl)
  rw [uz.out.kind]at x0
  rw [uz.out.key]at x3 x4 x5
  rw [uz.out.save]at x17
  rw [uz.out.cursor]at x18
  cases ib with
  | false =>
   have HE:=CM (mE Ce.out)
   go_cut [8] (fun kv wx=>kv = .bool false∧Sat w (aD w) wx [blk bt #[.slice ca cn cc] aX,blk bs e.cells.toArray tSt])
   case first =>
    refine af [(0,false,999),(1,false,999),(2,false,999),(3,false,999),(4,false,999),(5,false,999),(6,false,999),(7,false,999),(8,false,999),(9,false,999),(10,false,999),(11,false,999),(12,false,999),(13,false,999),(14,false,999)] (by kernel_rfl) (by kernel_rfl) ?_
    iterate 2 (refine ae rfl rfl (fun K hK=>?_);go_simp;refine hK _ ?_;clear hK K)
    first|(refine al rfl rfl ?_;simp only [Act.put,CO,CP,CQ,CR,CT,CU])|(refine ai rfl rfl (fun K hK=>?_);go_simp;refine hK _ ?_;clear hK K)
    iterate 2 (refine ae rfl rfl (fun K hK=>?_);go_simp;refine hK _ ?_;clear hK K)
    iterate 8 (first|(refine al rfl rfl ?_;simp only [Act.put,CO,CP,CQ,CR,CT,CU])|(refine ai rfl rfl (fun K hK=>?_);go_simp;refine hK _ ?_;clear hK K))
    iterate 2 (refine ae rfl rfl (fun K hK=>?_);go_simp;refine hK _ ?_;clear hK K)
    refine ah ?_
    go_wp2_with fail
    go_meet
    exact⟨rfl,ur.out.drew⟩
   case rest =>
    obtain⟨rfl,hs3⟩:=hcut
    have uo:=CM hs3
    clear hs3 ur x0 x2 x3 x4 x5 x6 x7 x17 x18 x19 z0 z1 z2 z3 z4 z5 z6 z7 z8 b0 bf
    obtain⟨x0,x2,x3,x4,x5,x6,x7,x17,x18,x19⟩:=bj (uo.out.blk 1 rfl)
    obtain⟨z0,z1,z2,z3,z4,z5,z6,z7,z8⟩:=bX (uo.out.blk 1 rfl)
    obtain⟨b0,bf⟩:=aq (uo.out.blk 0 rfl)
    rw [uz.out.kind]at x0
    rw [uz.out.key]at x3 x4 x5
    rw [uz.out.save]at x17
    rw [uz.out.cursor]at x18
    rcases fH s.kind with hk|hk|hk|hk|hk|hk|hk|hk|hk|hk|hk|hk|hk|hk|hk
    ·rw [hk]at x0
     by_cases h1:1≤s.save
     ·by_cases h2:s.save≤3
      ·go_wp2_with fail
       refine bodyPost_ret (results_tmp rfl _ _ _) rfl ?_
       exact⟨by rw [←HR.out,HE.out];simp [okK,aV,bN,hk,h1,h2],uo.out.end_ (PH.le.refl _)⟩
      ·go_wp2_with fail
       refine bodyPost_ret (results_tmp rfl _ _ _) rfl ?_
       exact⟨by rw [←HR.out,HE.out];simp [okK,aV,bN,hk,h1,h2],uo.out.end_ (PH.le.refl _)⟩
     ·go_wp2_with fail
      refine bodyPost_ret (results_tmp rfl _ _ _) rfl ?_
      exact⟨by rw [←HR.out,HE.out];simp [okK,aV,bN,hk];omega,uo.out.end_ (PH.le.refl _)⟩
    ·rw [hk]at x0
     by_cases h1:1≤s.save
     ·by_cases h2:s.save≤3
      ·go_wp2_with fail
       refine bodyPost_ret (results_tmp rfl _ _ _) rfl ?_
       exact⟨by rw [←HR.out,HE.out];simp [okK,aV,bN,hk,h1,h2],uo.out.end_ (PH.le.refl _)⟩
      ·go_wp2_with fail
       refine bodyPost_ret (results_tmp rfl _ _ _) rfl ?_
       exact⟨by rw [←HR.out,HE.out];simp [okK,aV,bN,hk,h1,h2],uo.out.end_ (PH.le.refl _)⟩
     ·go_wp2_with fail
      refine bodyPost_ret (results_tmp rfl _ _ _) rfl ?_
      exact⟨by rw [←HR.out,HE.out];simp [okK,aV,bN,hk];omega,uo.out.end_ (PH.le.refl _)⟩
    ·rw [hk]at x0
     go_wp2_with fail
     refine bodyPost_ret (results_tmp rfl _ _ _) rfl ?_
     exact⟨by rw [←HR.out,HE.out];simp [okK,aV,bN,hk],uo.out.end_ (PH.le.refl _)⟩
    ·rw [hk]at x0
     go_wp2_with fail
     refine bodyPost_ret (results_tmp rfl _ _ _) rfl ?_
     exact⟨by rw [←HR.out,HE.out];simp [okK,aV,bN,hk],uo.out.end_ (PH.le.refl _)⟩
    ·rw [hk]at x0
     go_wp2_with fail
     refine bodyPost_ret (results_tmp rfl _ _ _) rfl ?_
     exact⟨by rw [←HR.out,HE.out];simp [okK,aV,bN,hk],uo.out.end_ (PH.le.refl _)⟩
    ·rw [hk]at x0
     go_wp2_with fail
     refine bodyPost_ret (results_tmp rfl _ _ _) rfl ?_
     exact⟨by rw [←HR.out,HE.out];simp [okK,aV,bN,hk],uo.out.end_ (PH.le.refl _)⟩
    ·rw [hk]at x0
     go_wp2_with fail
     refine bodyPost_ret (results_tmp rfl _ _ _) rfl ?_
     exact⟨by rw [←HR.out,HE.out];simp [okK,aV,bN,hk],uo.out.end_ (PH.le.refl _)⟩
    ·rw [hk]at x0
     go_wp2_with fail
     refine bodyPost_ret (results_tmp rfl _ _ _) rfl ?_
     exact⟨by rw [←HR.out,HE.out];simp [okK,aV,bN,hk],uo.out.end_ (PH.le.refl _)⟩
    ·rw [hk]at x0
     go_wp2_with fail
     refine bodyPost_ret (results_tmp rfl _ _ _) rfl ?_
     exact⟨by rw [←HR.out,HE.out];simp [okK,aV,bN,hk],uo.out.end_ (PH.le.refl _)⟩
    ·rw [hk]at x0
     go_wp2_with fail
     refine bodyPost_ret (results_tmp rfl _ _ _) rfl ?_
     exact⟨by rw [←HR.out,HE.out];simp [okK,aV,bN,hk],uo.out.end_ (PH.le.refl _)⟩
    ·rw [hk]at x0
     by_cases h1:1≤s.cursor
     ·by_cases h2:s.cursor≤2
      ·go_wp2_with fail
       refine bodyPost_ret (results_tmp rfl _ _ _) rfl ?_
       exact⟨by rw [←HR.out,HE.out];simp [okK,aV,bN,hk,h1,h2],uo.out.end_ (PH.le.refl _)⟩
      ·go_wp2_with fail
       refine bodyPost_ret (results_tmp rfl _ _ _) rfl ?_
       exact⟨by rw [←HR.out,HE.out];simp [okK,aV,bN,hk,h1,h2],uo.out.end_ (PH.le.refl _)⟩
     ·go_wp2_with fail
      refine bodyPost_ret (results_tmp rfl _ _ _) rfl ?_
      exact⟨by rw [←HR.out,HE.out];simp [okK,aV,bN,hk];omega,uo.out.end_ (PH.le.refl _)⟩
    ·rw [hk]at x0
     by_cases h1:1≤s.cursor
     ·by_cases h2:s.cursor≤2
      ·go_wp2_with fail
       refine bodyPost_ret (results_tmp rfl _ _ _) rfl ?_
       exact⟨by rw [←HR.out,HE.out];simp [okK,aV,bN,hk,h1,h2],uo.out.end_ (PH.le.refl _)⟩
      ·go_wp2_with fail
       refine bodyPost_ret (results_tmp rfl _ _ _) rfl ?_
       exact⟨by rw [←HR.out,HE.out];simp [okK,aV,bN,hk,h1,h2],uo.out.end_ (PH.le.refl _)⟩
     ·go_wp2_with fail
      refine bodyPost_ret (results_tmp rfl _ _ _) rfl ?_
      exact⟨by rw [←HR.out,HE.out];simp [okK,aV,bN,hk];omega,uo.out.end_ (PH.le.refl _)⟩
    ·rw [hk]at x0
     by_cases h1:1≤s.cursor
     ·by_cases h2:s.cursor≤2
      ·go_wp2_with fail
       refine bodyPost_ret (results_tmp rfl _ _ _) rfl ?_
       exact⟨by rw [←HR.out,HE.out];simp [okK,aV,bN,hk,h1,h2],uo.out.end_ (PH.le.refl _)⟩
      ·go_wp2_with fail
       refine bodyPost_ret (results_tmp rfl _ _ _) rfl ?_
       exact⟨by rw [←HR.out,HE.out];simp [okK,aV,bN,hk,h1,h2],uo.out.end_ (PH.le.refl _)⟩
     ·go_wp2_with fail
      refine bodyPost_ret (results_tmp rfl _ _ _) rfl ?_
      exact⟨by rw [←HR.out,HE.out];simp [okK,aV,bN,hk];omega,uo.out.end_ (PH.le.refl _)⟩
    ·rw [hk]at x0
     by_cases h1:1≤s.cursor
     ·by_cases h2:s.cursor≤2
      ·go_wp2_with fail
       refine bodyPost_ret (results_tmp rfl _ _ _) rfl ?_
       exact⟨by rw [←HR.out,HE.out];simp [okK,aV,bN,hk,h1,h2],uo.out.end_ (PH.le.refl _)⟩
      ·go_wp2_with fail
       refine bodyPost_ret (results_tmp rfl _ _ _) rfl ?_
       exact⟨by rw [←HR.out,HE.out];simp [okK,aV,bN,hk,h1,h2],uo.out.end_ (PH.le.refl _)⟩
     ·go_wp2_with fail
      refine bodyPost_ret (results_tmp rfl _ _ _) rfl ?_
      exact⟨by rw [←HR.out,HE.out];simp [okK,aV,bN,hk];omega,uo.out.end_ (PH.le.refl _)⟩
    ·obtain⟨k4,k5,k6,k7,k8,k9,k10,k11,k12,k13,k14,k15,k16,k17⟩:=hk
     have hk:¬(14≤s.kind∧s.kind≤17):=by omega
     have q4:(s.kind == 4)=false:=by simpa using k4
     have q5:(s.kind == 5)=false:=by simpa using k5
     have q6:(s.kind == 6)=false:=by simpa using k6
     have q7:(s.kind == 7)=false:=by simpa using k7
     have q8:(s.kind == 8)=false:=by simpa using k8
     have q9:(s.kind == 9)=false:=by simpa using k9
     have q10:(s.kind == 10)=false:=by simpa using k10
     have q11:(s.kind == 11)=false:=by simpa using k11
     have q12:(s.kind == 12)=false:=by simpa using k12
     have q13:(s.kind == 13)=false:=by simpa using k13
     have q14:(s.kind == 14)=false:=by simpa using k14
     have q15:(s.kind == 15)=false:=by simpa using k15
     have q16:(s.kind == 16)=false:=by simpa using k16
     have q17:(s.kind == 17)=false:=by simpa using k17
     go_wp2_with fail
     refine bodyPost_ret (results_tmp rfl _ _ _) rfl ?_
     exact⟨by rw [←HR.out,HE.out];simp [okK,aV,bN,hk,k4,k5,k6,k7,k8,k9,k10,k11,k12,k13],uo.out.end_ (PH.le.refl _)⟩
  | true =>
   obtain⟨i,c,hi,hc,hm,rfl,hcol⟩:=HY.out rfl
   have HE:=CM (show okS cols s=_ from mN hi hc hm)
   have HM:=CM hm
   have uU:=CM hcol
   obtain⟨c0,hc0⟩:∃c0,c[0]?=some c0:=⟨c[0]'(by unfold cu at hm;simp at hm;omega),List.getElem?_eq_getElem _⟩
   have yi:=CM (show c.getD 0 false=c0 by rw [List.getD_eq_getElem?_getD,hc0];rfl)
   rw [yi.out,Be.out]at HE
   have hcl:0<c.length:=(List.getElem?_eq_some_iff.1 hc0).1
   have hcl2:(0:Int)<(c.length:Int):=by omega
   obtain⟨cg,cof,rfl⟩:=ez (uU.out.rd ur.out) hc0 rfl
   have hcz:=dG (uU.out.rd ur.out.drew) hc0
   rw [Nat.add_zero]at hcz
   obtain⟨kb,hkb⟩:∃kb,(vr&&decide (s.key.t=c0))=kb:=⟨_,rfl⟩
   rw [hkb]at HE
   have yP:=CM hkb
   clear hi hc hm hcol hc0 hkb
   go_cut [8] (fun kv wx=>kv = .bool kb∧Sat w (aD w) wx [blk bt #[.slice (some ⟨cg,cof,none⟩) c.length cc] aX,blk bs e.cells.toArray tSt])
   case first =>
    cases vr
    ·have vP:=CM (show kb=false by rw [←yP.out];rfl)
     refine af [(0,false,999),(1,false,999),(2,false,999),(3,false,999),(4,false,999),(5,false,999),(6,false,999),(7,false,999),(8,false,999),(9,false,999),(10,false,999),(11,false,999),(12,false,999),(13,false,999),(14,false,999)] (by kernel_rfl) (by kernel_rfl) ?_
     iterate 2 (refine ae rfl rfl (fun K hK=>?_);go_simp;refine hK _ ?_;clear hK K)
     first|(refine al rfl rfl ?_;simp only [Act.put,CO,CP,CQ,CR,CT,CU])|(refine ai rfl rfl (fun K hK=>?_);go_simp;refine hK _ ?_;clear hK K)
     iterate 2 (refine ae rfl rfl (fun K hK=>?_);go_simp;refine hK _ ?_;clear hK K)
     iterate 8 (first|(refine al rfl rfl ?_;simp only [Act.put,CO,CP,CQ,CR,CT,CU])|(refine ai rfl rfl (fun K hK=>?_);go_simp;refine hK _ ?_;clear hK K))
     iterate 2 (refine ae rfl rfl (fun K hK=>?_);go_simp;refine hK _ ?_;clear hK K)
     refine ah ?_
     go_wp2_with fail
     go_meet
     exact⟨by rw [vP.out],ur.out.drew⟩
    ·have vP:=CM (show kb=(s.key.t == c0) by rw [←yP.out];rfl)
     refine af [(0,false,999),(1,false,999),(2,false,999),(3,false,999),(4,false,999),(5,false,999),(6,false,999),(7,false,999),(8,false,999),(9,false,999),(10,false,999),(11,false,999),(12,false,999),(13,false,999),(14,false,999)] (by kernel_rfl) (by kernel_rfl) ?_
     iterate 2 (refine ae rfl rfl (fun K hK=>?_);go_simp;refine hK _ ?_;clear hK K)
     first|(refine al rfl rfl ?_;simp only [Act.put,CO,CP,CQ,CR,CT,CU])|(refine ai rfl rfl (fun K hK=>?_);go_simp;refine hK _ ?_;clear hK K)
     iterate 2 (refine ae rfl rfl (fun K hK=>?_);go_simp;refine hK _ ?_;clear hK K)
     iterate 8 (first|(refine al rfl rfl ?_;simp only [Act.put,CO,CP,CQ,CR,CT,CU])|(refine ai rfl rfl (fun K hK=>?_);go_simp;refine hK _ ?_;clear hK K))
     iterate 2 (refine ae rfl rfl (fun K hK=>?_);go_simp;refine hK _ ?_;clear hK K)
     refine ah ?_
     go_wp2_with fail
     go_meet
     exact⟨by rw [vP.out],ur.out.drew⟩
   case rest =>
    obtain⟨rfl,hs3⟩:=hcut
    have uo:=CM hs3
    clear hs3 ur hcz x0 x2 x3 x4 x5 x6 x7 x17 x18 x19 z0 z1 z2 z3 z4 z5 z6 z7 z8 b0 bf
    obtain⟨x0,x2,x3,x4,x5,x6,x7,x17,x18,x19⟩:=bj (uo.out.blk 1 rfl)
    obtain⟨z0,z1,z2,z3,z4,z5,z6,z7,z8⟩:=bX (uo.out.blk 1 rfl)
    obtain⟨b0,bf⟩:=aq (uo.out.blk 0 rfl)
    rw [uz.out.kind]at x0
    rw [uz.out.key]at x3 x4 x5
    rw [uz.out.save]at x17
    rw [uz.out.cursor]at x18
    obtain⟨pb,hpb⟩:∃pb,cB c s.pred=pb:=⟨_,rfl⟩
    obtain⟨sb,hsb⟩:∃sb,cT c s.sets=sb:=⟨_,rfl⟩
    obtain⟨fb,hfb⟩:∃fb,bw c s.row=fb:=⟨_,rfl⟩
    rw [hpb,hsb,hfb]at HE
    have ww:=CM (show ∀W,Sat w (aD w) W [blk bt #[.slice (some ⟨cg,cof,none⟩) c.length cc] aX,blk bs e.cells.toArray tSt]→Calls Tryz.prog 29 #[.agg #[.slice (some ⟨cg,cof,none⟩) c.length cc],.agg e.pe.cells.toArray] W fun r w'=>r = .returned (.bool pb)∧Kept (fun _=>False) W w' from fun W hs=>by
     rw [←hpb,←uz.out.pred]
     exact r8 e.pe (uU.out.rd hs) HM.out (uz.out.subs.rd hs) (by rw [uz.out.pred];exact ye.out))
    have HCS:=CM (show ∀W,Sat w (aD w) W [blk bt #[.slice (some ⟨cg,cof,none⟩) c.length cc] aX,blk bs e.cells.toArray tSt]→Calls Tryz.prog 28 #[.agg #[.slice (some ⟨cg,cof,none⟩) c.length cc],.slice e.sets.ro e.sets.rn e.sets.rc] W fun r w'=>r = .returned (.bool sb)∧Kept (fun _=>False) W w' from fun W hs=>by
     rw [←hsb]
     exact tQ HM.out (uU.out.rd hs) (RdP.rd uz.out.sets.1 hs))
    have wN:=CM (show e.row.v = .slice e.row.ro e.row.rn e.row.rc from rfl)
    have yU:=CM (show e.sets.v = .slice e.sets.ro e.sets.rn e.sets.rc from rfl)
    rw [yU.out]at x7
    clear hpb hsb
    rcases fH s.kind with hk|hk|hk|hk|hk|hk|hk|hk|hk|hk|hk|hk|hk|hk|hk
    ·rw [hk]at x0
     by_cases h1:1≤s.save
     ·by_cases h2:s.save≤3
      ·go_wp2_with fail
       refine bodyPost_ret (results_tmp rfl _ _ _) rfl ?_
       exact⟨by rw [←HR.out,HE.out];simp [okK,aV,bN,hk,h1,h2],uo.out.end_ (PH.le.refl _)⟩
      ·go_wp2_with fail
       refine bodyPost_ret (results_tmp rfl _ _ _) rfl ?_
       exact⟨by rw [←HR.out,HE.out];simp [okK,aV,bN,hk,h1,h2],uo.out.end_ (PH.le.refl _)⟩
     ·go_wp2_with fail
      refine bodyPost_ret (results_tmp rfl _ _ _) rfl ?_
      exact⟨by rw [←HR.out,HE.out];simp [okK,aV,bN,hk];omega,uo.out.end_ (PH.le.refl _)⟩
    ·rw [hk]at x0
     by_cases h1:1≤s.save
     ·by_cases h2:s.save≤3
      ·go_wp2_with fail
       refine bodyPost_ret (results_tmp rfl _ _ _) rfl ?_
       exact⟨by rw [←HR.out,HE.out];simp [okK,aV,bN,hk,h1,h2],uo.out.end_ (PH.le.refl _)⟩
      ·go_wp2_with fail
       refine bodyPost_ret (results_tmp rfl _ _ _) rfl ?_
       exact⟨by rw [←HR.out,HE.out];simp [okK,aV,bN,hk,h1,h2],uo.out.end_ (PH.le.refl _)⟩
     ·go_wp2_with fail
      refine bodyPost_ret (results_tmp rfl _ _ _) rfl ?_
      exact⟨by rw [←HR.out,HE.out];simp [okK,aV,bN,hk];omega,uo.out.end_ (PH.le.refl _)⟩
    ·rw [hk]at x0
     go_wp2_with fail
     refine bodyPost_ret (results_tmp rfl _ _ _) rfl ?_
     exact⟨by rw [←HR.out,HE.out];simp [okK,aV,bN,hk],uo.out.end_ (PH.le.refl _)⟩
    ·rw [hk]at x0
     have wh:=CM (tn (uU.out.rd uo.out) (RdP.rd uz.out.row.1 uo.out))
     rw [wN.out,hfb]at wh
     rw [wN.out]at x6
     go_wp2_with (go_at_call 27;refine wh.out.mono ?_;rintro e8 w8 ⟨rfl,hk8⟩;have uN:=CM (uo.out.kept hk8);clear hk8 uo x0 x2 x3 x4 x5 x6 x7 x17 x18 x19 z0 z1 z2 z3 z4 z5 z6 z7 z8 b0 bf wh)
     refine bodyPost_ret (results_tmp rfl _ _ _) rfl ?_
     exact⟨by rw [←HR.out,HE.out];simp [okK,aV,bN,hk],uN.out.end_ (PH.le.refl _)⟩
    ·rw [hk]at x0
     cases kb
     ·go_wp2_with fail
      refine bodyPost_ret (results_tmp rfl _ _ _) rfl ?_
      exact⟨by rw [←HR.out,HE.out];simp [okK,aV,bN,hk],uo.out.end_ (PH.le.refl _)⟩
     ·go_wp2_with (go_at_call 28;refine(HCS.out _ uo.out).mono ?_;rintro e8 w8 ⟨rfl,hk8⟩;have uN:=CM (uo.out.kept hk8);clear hk8 uo x0 x2 x3 x4 x5 x6 x7 x17 x18 x19 z0 z1 z2 z3 z4 z5 z6 z7 z8 b0 bf)
      refine bodyPost_ret (results_tmp rfl _ _ _) rfl ?_
      exact⟨by rw [←HR.out,HE.out];simp [okK,aV,bN,hk],uN.out.end_ (PH.le.refl _)⟩
    ·rw [hk]at x0
     go_wp2_with fail
     refine bodyPost_ret (results_tmp rfl _ _ _) rfl ?_
     exact⟨by rw [←HR.out,HE.out];simp [okK,aV,bN,hk],uo.out.end_ (PH.le.refl _)⟩
    ·rw [hk]at x0
     go_wp2_with (go_at_call 29;refine(ww.out _ uo.out).mono ?_;rintro e8 w8 ⟨rfl,hk8⟩;have uN:=CM (uo.out.kept hk8);clear hk8 uo x0 x2 x3 x4 x5 x6 x7 x17 x18 x19 z0 z1 z2 z3 z4 z5 z6 z7 z8 b0 bf)
     refine bodyPost_ret (results_tmp rfl _ _ _) rfl ?_
     exact⟨by rw [←HR.out,HE.out];simp [okK,aV,bN,hk],uN.out.end_ (PH.le.refl _)⟩
    ·rw [hk]at x0
     cases pb
     ·go_wp2_with (go_at_call 29;refine(ww.out _ uo.out).mono ?_;rintro e8 w8 ⟨rfl,hk8⟩;have uN:=CM (uo.out.kept hk8);clear hk8 uo x0 x2 x3 x4 x5 x6 x7 x17 x18 x19 z0 z1 z2 z3 z4 z5 z6 z7 z8 b0 bf)
      refine bodyPost_ret (results_tmp rfl _ _ _) rfl ?_
      exact⟨by rw [←HR.out,HE.out];simp [okK,aV,bN,hk],uN.out.end_ (PH.le.refl _)⟩
     ·go_wp2_with (first|(go_at_call 29;refine(ww.out _ uo.out).mono ?_;rintro e8 w8 ⟨rfl,hk8⟩;have uN:=CM (uo.out.kept hk8);clear hk8 uo x0 x2 x3 x4 x5 x6 x7 x17 x18 x19 z0 z1 z2 z3 z4 z5 z6 z7 z8 b0 bf;obtain⟨x0,x2,x3,x4,x5,x6,x7,x17,x18,x19⟩:=bj (uN.out.blk 1 rfl);obtain⟨z0,z1,z2,z3,z4,z5,z6,z7,z8⟩:=bX (uN.out.blk 1 rfl);obtain⟨b0,bf⟩:=aq (uN.out.blk 0 rfl);rw [uz.out.cursor]at x18;rw [yU.out]at x7)|(go_at_call 28;refine(HCS.out _ uN.out).mono ?_;rintro e8 w8 ⟨rfl,hk8⟩;have uH:=CM (uN.out.kept hk8);clear hk8 uN x0 x2 x3 x4 x5 x6 x7 x17 x18 x19 z0 z1 z2 z3 z4 z5 z6 z7 z8 b0 bf))
      refine bodyPost_ret (results_tmp rfl _ _ _) rfl ?_
      exact⟨by rw [←HR.out,HE.out];simp [okK,aV,bN,hk],uH.out.end_ (PH.le.refl _)⟩
    ·rw [hk]at x0
     go_wp2_with (go_at_call 29;refine(ww.out _ uo.out).mono ?_;rintro e8 w8 ⟨rfl,hk8⟩;have uN:=CM (uo.out.kept hk8);clear hk8 uo x0 x2 x3 x4 x5 x6 x7 x17 x18 x19 z0 z1 z2 z3 z4 z5 z6 z7 z8 b0 bf)
     refine bodyPost_ret (results_tmp rfl _ _ _) rfl ?_
     exact⟨by rw [←HR.out,HE.out];simp [okK,aV,bN,hk],uN.out.end_ (PH.le.refl _)⟩
    ·rw [hk]at x0
     cases pb
     ·go_wp2_with (go_at_call 29;refine(ww.out _ uo.out).mono ?_;rintro e8 w8 ⟨rfl,hk8⟩;have uN:=CM (uo.out.kept hk8);clear hk8 uo x0 x2 x3 x4 x5 x6 x7 x17 x18 x19 z0 z1 z2 z3 z4 z5 z6 z7 z8 b0 bf)
      refine bodyPost_ret (results_tmp rfl _ _ _) rfl ?_
      exact⟨by rw [←HR.out,HE.out];simp [okK,aV,bN,hk],uN.out.end_ (PH.le.refl _)⟩
     ·have yO:=CM (show ∀W,Sat w (aD w) W [blk bt #[.slice (some ⟨cg,cof,none⟩) c.length cc] aX,blk bs e.cells.toArray tSt]→Calls Tryz.prog 30 #[.agg e.pe.cells.toArray] W fun r w'=>r = .returned (.int .i64 (s.pred.nodes.length:Int))∧Kept (fun _=>False) W w' from fun W hs=>lj s.pred e.pe W uz.out.pred ye.out (uz.out.subs.rd hs))
      generalize hnl:s.pred.nodes.length=nl at yO HE
      by_cases h13:nl≤13
      ·have h13':(nl:Int)≤13:=by omega
       clear hnl
       by_cases h1:1≤s.cursor
       ·by_cases h2:s.cursor≤2
        ·go_wp2_with (first|(go_at_call 29;refine(ww.out _ uo.out).mono ?_;rintro e8 w8 ⟨rfl,hk8⟩;have uN:=CM (uo.out.kept hk8);clear hk8 uo x0 x2 x3 x4 x5 x6 x7 x17 x18 x19 z0 z1 z2 z3 z4 z5 z6 z7 z8 b0 bf;obtain⟨x0,x2,x3,x4,x5,x6,x7,x17,x18,x19⟩:=bj (uN.out.blk 1 rfl);obtain⟨z0,z1,z2,z3,z4,z5,z6,z7,z8⟩:=bX (uN.out.blk 1 rfl);obtain⟨b0,bf⟩:=aq (uN.out.blk 0 rfl);rw [uz.out.cursor]at x18)|(go_at_call 30;refine(yO.out _ uN.out).mono ?_;rintro e8 w8 ⟨rfl,hk8⟩;have uH:=CM (uN.out.kept hk8);clear hk8 uN x0 x2 x3 x4 x5 x6 x7 x17 x18 x19 z0 z1 z2 z3 z4 z5 z6 z7 z8 b0 bf;obtain⟨x0,x2,x3,x4,x5,x6,x7,x17,x18,x19⟩:=bj (uH.out.blk 1 rfl);obtain⟨z0,z1,z2,z3,z4,z5,z6,z7,z8⟩:=bX (uH.out.blk 1 rfl);obtain⟨b0,bf⟩:=aq (uH.out.blk 0 rfl);rw [uz.out.cursor]at x18))
         refine bodyPost_ret (results_tmp rfl _ _ _) rfl ?_
         exact⟨by rw [←HR.out,HE.out];simp [okK,aV,bN,hk,h13,h1,h2],uH.out.end_ (PH.le.refl _)⟩
        ·go_wp2_with (first|(go_at_call 29;refine(ww.out _ uo.out).mono ?_;rintro e8 w8 ⟨rfl,hk8⟩;have uN:=CM (uo.out.kept hk8);clear hk8 uo x0 x2 x3 x4 x5 x6 x7 x17 x18 x19 z0 z1 z2 z3 z4 z5 z6 z7 z8 b0 bf;obtain⟨x0,x2,x3,x4,x5,x6,x7,x17,x18,x19⟩:=bj (uN.out.blk 1 rfl);obtain⟨z0,z1,z2,z3,z4,z5,z6,z7,z8⟩:=bX (uN.out.blk 1 rfl);obtain⟨b0,bf⟩:=aq (uN.out.blk 0 rfl);rw [uz.out.cursor]at x18)|(go_at_call 30;refine(yO.out _ uN.out).mono ?_;rintro e8 w8 ⟨rfl,hk8⟩;have uH:=CM (uN.out.kept hk8);clear hk8 uN x0 x2 x3 x4 x5 x6 x7 x17 x18 x19 z0 z1 z2 z3 z4 z5 z6 z7 z8 b0 bf;obtain⟨x0,x2,x3,x4,x5,x6,x7,x17,x18,x19⟩:=bj (uH.out.blk 1 rfl);obtain⟨z0,z1,z2,z3,z4,z5,z6,z7,z8⟩:=bX (uH.out.blk 1 rfl);obtain⟨b0,bf⟩:=aq (uH.out.blk 0 rfl);rw [uz.out.cursor]at x18))
         refine bodyPost_ret (results_tmp rfl _ _ _) rfl ?_
         exact⟨by rw [←HR.out,HE.out];simp [okK,aV,bN,hk,h13,h1,h2],uH.out.end_ (PH.le.refl _)⟩
       ·go_wp2_with (first|(go_at_call 29;refine(ww.out _ uo.out).mono ?_;rintro e8 w8 ⟨rfl,hk8⟩;have uN:=CM (uo.out.kept hk8);clear hk8 uo x0 x2 x3 x4 x5 x6 x7 x17 x18 x19 z0 z1 z2 z3 z4 z5 z6 z7 z8 b0 bf;obtain⟨x0,x2,x3,x4,x5,x6,x7,x17,x18,x19⟩:=bj (uN.out.blk 1 rfl);obtain⟨z0,z1,z2,z3,z4,z5,z6,z7,z8⟩:=bX (uN.out.blk 1 rfl);obtain⟨b0,bf⟩:=aq (uN.out.blk 0 rfl);rw [uz.out.cursor]at x18)|(go_at_call 30;refine(yO.out _ uN.out).mono ?_;rintro e8 w8 ⟨rfl,hk8⟩;have uH:=CM (uN.out.kept hk8);clear hk8 uN x0 x2 x3 x4 x5 x6 x7 x17 x18 x19 z0 z1 z2 z3 z4 z5 z6 z7 z8 b0 bf;obtain⟨x0,x2,x3,x4,x5,x6,x7,x17,x18,x19⟩:=bj (uH.out.blk 1 rfl);obtain⟨z0,z1,z2,z3,z4,z5,z6,z7,z8⟩:=bX (uH.out.blk 1 rfl);obtain⟨b0,bf⟩:=aq (uH.out.blk 0 rfl);rw [uz.out.cursor]at x18))
        refine bodyPost_ret (results_tmp rfl _ _ _) rfl ?_
        exact⟨by rw [←HR.out,HE.out];simp [okK,aV,bN,hk,h13];omega,uH.out.end_ (PH.le.refl _)⟩
      ·have h13':¬(nl:Int)≤13:=by omega
       clear hnl
       go_wp2_with (first|(go_at_call 29;refine(ww.out _ uo.out).mono ?_;rintro e8 w8 ⟨rfl,hk8⟩;have uN:=CM (uo.out.kept hk8);clear hk8 uo x0 x2 x3 x4 x5 x6 x7 x17 x18 x19 z0 z1 z2 z3 z4 z5 z6 z7 z8 b0 bf;obtain⟨x0,x2,x3,x4,x5,x6,x7,x17,x18,x19⟩:=bj (uN.out.blk 1 rfl);obtain⟨z0,z1,z2,z3,z4,z5,z6,z7,z8⟩:=bX (uN.out.blk 1 rfl);obtain⟨b0,bf⟩:=aq (uN.out.blk 0 rfl);rw [uz.out.cursor]at x18)|(go_at_call 30;refine(yO.out _ uN.out).mono ?_;rintro e8 w8 ⟨rfl,hk8⟩;have uH:=CM (uN.out.kept hk8);clear hk8 uN x0 x2 x3 x4 x5 x6 x7 x17 x18 x19 z0 z1 z2 z3 z4 z5 z6 z7 z8 b0 bf;obtain⟨x0,x2,x3,x4,x5,x6,x7,x17,x18,x19⟩:=bj (uH.out.blk 1 rfl);obtain⟨z0,z1,z2,z3,z4,z5,z6,z7,z8⟩:=bX (uH.out.blk 1 rfl);obtain⟨b0,bf⟩:=aq (uH.out.blk 0 rfl);rw [uz.out.cursor]at x18))
       refine bodyPost_ret (results_tmp rfl _ _ _) rfl ?_
       exact⟨by rw [←HR.out,HE.out];simp [okK,aV,bN,hk,h13],uH.out.end_ (PH.le.refl _)⟩
    ·rw [hk]at x0
     by_cases h1:1≤s.cursor
     ·by_cases h2:s.cursor≤2
      ·go_wp2_with fail
       refine bodyPost_ret (results_tmp rfl _ _ _) rfl ?_
       exact⟨by rw [←HR.out,HE.out];simp [okK,aV,bN,hk,h1,h2],uo.out.end_ (PH.le.refl _)⟩
      ·go_wp2_with fail
       refine bodyPost_ret (results_tmp rfl _ _ _) rfl ?_
       exact⟨by rw [←HR.out,HE.out];simp [okK,aV,bN,hk,h1,h2],uo.out.end_ (PH.le.refl _)⟩
     ·go_wp2_with fail
      refine bodyPost_ret (results_tmp rfl _ _ _) rfl ?_
      exact⟨by rw [←HR.out,HE.out];simp [okK,aV,bN,hk];omega,uo.out.end_ (PH.le.refl _)⟩
    ·rw [hk]at x0
     by_cases h1:1≤s.cursor
     ·by_cases h2:s.cursor≤2
      ·go_wp2_with fail
       refine bodyPost_ret (results_tmp rfl _ _ _) rfl ?_
       exact⟨by rw [←HR.out,HE.out];simp [okK,aV,bN,hk,h1,h2],uo.out.end_ (PH.le.refl _)⟩
      ·go_wp2_with fail
       refine bodyPost_ret (results_tmp rfl _ _ _) rfl ?_
       exact⟨by rw [←HR.out,HE.out];simp [okK,aV,bN,hk,h1,h2],uo.out.end_ (PH.le.refl _)⟩
     ·go_wp2_with fail
      refine bodyPost_ret (results_tmp rfl _ _ _) rfl ?_
      exact⟨by rw [←HR.out,HE.out];simp [okK,aV,bN,hk];omega,uo.out.end_ (PH.le.refl _)⟩
    ·rw [hk]at x0
     by_cases h1:1≤s.cursor
     ·by_cases h2:s.cursor≤2
      ·go_wp2_with fail
       refine bodyPost_ret (results_tmp rfl _ _ _) rfl ?_
       exact⟨by rw [←HR.out,HE.out];simp [okK,aV,bN,hk,h1,h2],uo.out.end_ (PH.le.refl _)⟩
      ·go_wp2_with fail
       refine bodyPost_ret (results_tmp rfl _ _ _) rfl ?_
       exact⟨by rw [←HR.out,HE.out];simp [okK,aV,bN,hk,h1,h2],uo.out.end_ (PH.le.refl _)⟩
     ·go_wp2_with fail
      refine bodyPost_ret (results_tmp rfl _ _ _) rfl ?_
      exact⟨by rw [←HR.out,HE.out];simp [okK,aV,bN,hk];omega,uo.out.end_ (PH.le.refl _)⟩
    ·rw [hk]at x0
     by_cases h1:1≤s.cursor
     ·by_cases h2:s.cursor≤2
      ·go_wp2_with fail
       refine bodyPost_ret (results_tmp rfl _ _ _) rfl ?_
       exact⟨by rw [←HR.out,HE.out];simp [okK,aV,bN,hk,h1,h2],uo.out.end_ (PH.le.refl _)⟩
      ·go_wp2_with fail
       refine bodyPost_ret (results_tmp rfl _ _ _) rfl ?_
       exact⟨by rw [←HR.out,HE.out];simp [okK,aV,bN,hk,h1,h2],uo.out.end_ (PH.le.refl _)⟩
     ·go_wp2_with fail
      refine bodyPost_ret (results_tmp rfl _ _ _) rfl ?_
      exact⟨by rw [←HR.out,HE.out];simp [okK,aV,bN,hk];omega,uo.out.end_ (PH.le.refl _)⟩
    ·obtain⟨k4,k5,k6,k7,k8,k9,k10,k11,k12,k13,k14,k15,k16,k17⟩:=hk
     have hk:¬(14≤s.kind∧s.kind≤17):=by omega
     have q4:(s.kind == 4)=false:=by simpa using k4
     have q5:(s.kind == 5)=false:=by simpa using k5
     have q6:(s.kind == 6)=false:=by simpa using k6
     have q7:(s.kind == 7)=false:=by simpa using k7
     have q8:(s.kind == 8)=false:=by simpa using k8
     have q9:(s.kind == 9)=false:=by simpa using k9
     have q10:(s.kind == 10)=false:=by simpa using k10
     have q11:(s.kind == 11)=false:=by simpa using k11
     have q12:(s.kind == 12)=false:=by simpa using k12
     have q13:(s.kind == 13)=false:=by simpa using k13
     have q14:(s.kind == 14)=false:=by simpa using k14
     have q15:(s.kind == 15)=false:=by simpa using k15
     have q16:(s.kind == 16)=false:=by simpa using k16
     have q17:(s.kind == 17)=false:=by simpa using k17
     go_wp2_with fail
     refine bodyPost_ret (results_tmp rfl _ _ _) rfl ?_
     exact⟨by rw [←HR.out,HE.out];simp [okK,aV,bN,hk,k4,k5,k6,k7,k8,k9,k10,k11,k12,k13],uo.out.end_ (PH.le.refl _)⟩
theorem rG {w:World}{v:Value}{cols:List (List Bool)}{e:StmE}{s:StmM}(ht:TblsAt (aD w) v cols)(hs:StmOk (aD w) e s) :
  Calls Tryz.prog 3 #[v,.agg e.cells.toArray] w fun r w'=>r = .returned (.bool true)∧Kept (fun _=>False) w w':=by
 obtain⟨va,vc,rfl⟩:∃a c,v = .slice a cols.length c:=by obtain⟨us,_,_,h3,_⟩:=ht;obtain⟨a,c,h⟩:=h3.shape;exact⟨a,c,h⟩
 obtain⟨W1,hW1,h1⟩:∃W,W=w.alloc (.cells e.cells.toArray tSt)∧Sat w (aD w) W [blk w.heap.size e.cells.toArray tSt]:=⟨_,rfl,(Sat.start w).alloc _ _⟩
 have ul:=CM hW1
 have uk:=CM h1
 have HT:=CM ht
 have uz:=CM hs
 obtain⟨N,hN⟩:∃N,cols.length=N:=⟨_,rfl⟩
 rw [hN]at HT ⊢
 clear hW1 h1 ht hs hN
 go_enter Tryz.func3,Tryz.ntmps3
 go_wp2_with fail
 rw [←ul.out]
 generalize w.heap.size=bs at uk ⊢
 refine(ph W1).mono ?_
 rintro e2 w2 ⟨rfl,hk2⟩
 have ur:=CM (uk.out.kept hk2)
 clear hk2 uk ul
 have vJ:=CM (eC (aA (ur.out.blk 0 rfl)))
 go_wp2_with (refine bG rfl _ _ rfl _ _ rfl _ vJ.out ?_)
 refine(sU (uz.out.mono ur.out.pool)).mono ?_
 rintro e4 w4 ⟨b2,rfl,hb2,hk4⟩
 have uy:=CM (ur.out.kept hk4)
 have un:=CM hb2
 clear hk4 hb2 ur vJ
 cases b2 with
 | false =>
  go_wp2_with fail
  refine bodyPost_ret (results_tmp rfl _ _ _) rfl ?_
  exact⟨rfl,uy.out.drop.end_ (PH.le.refl _)⟩
 | true =>
 by_cases h20:N≤20
 case neg =>
  have h20i:(20:Int)<(N:Int):=by omega
  go_wp2_with fail
  refine bodyPost_ret (results_tmp rfl _ _ _) rfl ?_
  exact⟨rfl,uy.out.drop.end_ (PH.le.refl _)⟩
 have h20i:¬((20:Int)<(N:Int)):=by omega
 have hnp:s.pred.nodes.length≤1000000:=by have:=(un.out rfl).2.2;omega
 have vJ:=CM (eC (aA (uy.out.blk 0 rfl)))
 have vV:=CM (rN (HT.out.mono uy.out.pool) (uz.out.mono uy.out.pool) hnp)
 have ye:=CM hnp
 obtain⟨ok,hok⟩:∃b,okS cols s=b:=⟨_,rfl⟩
 rw [hok]at vV
 have vp:=CM hok
 clear hnp hok un
 go_wp2_with (refine bG rfl _ _ rfl _ _ rfl _ vJ.out ?_)
 refine vV.out.mono ?_
 rintro e5 w5 ⟨rfl,hk5⟩
 have uA:=CM (uy.out.kept hk5)
 clear hk5 uy vJ vV
 have vJ:=CM (eC (aA (uA.out.blk 0 rfl)))
 have vj:=CM (nK (HT.out.mono uA.out.pool) (uz.out.mono uA.out.pool) ye.out)
 rw [vp.out]at vj
 cases ok
 all_goals
  go_wp2_with (refine bG rfl _ _ rfl _ _ rfl _ vJ.out ?_)
  refine vj.out.mono ?_
  rintro e6 w6 ⟨rfl,hk6⟩
  have vU:=CM ((uA.out.kept hk6).drop.end_ (PH.le.refl _))
  clear hk6
  go_wp2_with fail
  refine bodyPost_ret (results_tmp rfl _ _ _) rfl ?_
  exact⟨rfl,vU.out⟩
end Go.Proofs.YtdobimafhbfkhaaGreat
