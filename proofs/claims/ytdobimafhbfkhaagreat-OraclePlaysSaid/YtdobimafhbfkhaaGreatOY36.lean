/- An oracle is made (oracle.New), and what follows. -/
import Derived.Test.YtdobimafhbfkhaaGreatOY35
set_option maxHeartbeats 64000000
namespace Go.Proofs.YtdobimafhbfkhaaGreat
open Go.ChangeShapes Go.WideShapes Go.ChangeAt Go.RowKit
set_option maxRecDepth 100000
set_option linter.unusedSimpArgs false
abbrev jY : TypeId:=85
abbrev tPtrs : TypeId:=82
abbrev tBls : TypeId:=64
abbrev tBl : TypeId:=4
theorem infoTab : (Tryz.prog.info? bN).map (fun i=>(i.zero,i.size,i.bytes))=some (some (.agg #[.slice none 0 0]),1,24):=by kernel_rfl
theorem infoPtr : (Tryz.prog.info? jY).map (fun i=>(i.zero,i.size,i.bytes))=some (some (.pointer none),1,8):=by kernel_rfl
theorem infoBl : (Tryz.prog.info? tBl).map (fun i=>(i.zero,i.size,i.bytes))=some (some (.bool false),1,1):=by kernel_rfl
def vP (D:PH)(bo j:Nat)(tv pv:Value)(ts:List Nat)(hs:List Value):List HP:=[blk bo #[tv,pv] tOr,aD bN 1 tv j hs,aD jY 1 pv j (ts.map mq),aY ((ts.zip (List.replicate j [])).map (eq D))]
theorem tF {B w:World}{D D' D0:PH}{bo j:Nat}{tv pv:Value}{ts:List Nat}{hs:List Value}{l:List HP}(le:PH.le D D')(h:Sat B D0 w (vP D bo j tv pv ts hs++l)):Sat B D0 w (vP D' bo j tv pv ts hs++l):=by
 have h1:=(h.front 3 rfl).weaken (A':=aY ((ts.zip (List.replicate j [])).map (eq D'))) (fun h=>gj _ (fun _ _ _ h=>i4 le _ h) h);exact h1.perm (Ge (l₁:=[blk bo #[tv,pv] tOr,aD bN 1 tv j hs,aD jY 1 pv j (ts.map mq)]) (a:=aY ((ts.zip (List.replicate j [])).map (eq D'))) (l₂:=l)).symm
theorem uj {B w:World}{D:PH}{bo j b1 b2 t:Nat}{tv pv:Value}{ts:List Nat}{hs:List Value}{c1 c2:Array Value}{t1 t2:TypeId}{l:List HP}(hl:ts.length=j)(h:Sat B D w (blk bo #[tv,pv] tOr::aD jY 1 pv (j+1) ((ts ++ [t]).map mq)::blk b1 c1 t1::fK D t []::aD bN 1 tv (j+1) hs::blk b2 c2 t2::aY ((ts.zip (List.replicate j [])).map (eq D))::l)):Sat B D w (vP D bo (j+1) tv pv (ts ++ [t]) hs++l):=by
 have h1:=(h.front 2 rfl).drop;have h2:Sat B D w (blk bo #[tv,pv] tOr::aD jY 1 pv (j+1) ((ts ++ [t]).map mq)::fK D t []::aD bN 1 tv (j+1) hs::blk b2 c2 t2::aY ((ts.zip (List.replicate j [])).map (eq D))::l):=h1;have h3:=(h2.front 4 rfl).drop;have h4:Sat B D w (blk bo #[tv,pv] tOr::aD jY 1 pv (j+1) ((ts ++ [t]).map mq)::fK D t []::aD bN 1 tv (j+1) hs::aY ((ts.zip (List.replicate j [])).map (eq D))::l):=h3;have h5:=(h4.front 4 rfl).ungroup;have h6:Sat B D w ((ts.zip (List.replicate j [])).map (eq D)++(blk bo #[tv,pv] tOr::aD jY 1 pv (j+1) ((ts ++ [t]).map mq)::fK D t []::aD bN 1 tv (j+1) hs::l)):=h5;have h7:=h6.perm ((gh _ 2 (fK D t []) rfl).append_left _);have h8:Sat B D w (((ts.zip (List.replicate j [])).map (eq D) ++ [fK D t []])++(blk bo #[tv,pv] tOr::aD jY 1 pv (j+1) ((ts ++ [t]).map mq)::aD bN 1 tv (j+1) hs::l)):=by
  rw [FU];exact h7
 have h9:=h8.togroup;have e:(ts.zip (List.replicate j [])).map (eq D) ++ [fK D t []]=((ts ++ [t]).zip (List.replicate (j+1) [])).map (eq D):=by
  rw [List.replicate_succ',List.zip_append (by rw [List.length_replicate];exact hl),List.map_append]
  rfl
 rw [e]at h9;exact((h9.front 2 rfl).front 3 rfl).front 3 rfl
def NewAns (B:World)(D:PH)(l:List HP)(cols:List (List Bool))(e:Ending)(w':World):Prop:=∃D',PH.le D D'∧if eo cols then ∃o,e = .returned (.pointer (some ⟨o,0,none⟩))∧Sat B D' w' (orP D' o (fJ cols)::l)else e = .returned (.pointer none)∧Sat B D' w' l
theorem uJ {B w:World}{D:PH}{l:List HP}{v:Value}{cols:List (List Bool)}(ht:TblsAt D v cols)(h:Sat B D w l) :
  Calls Tryz.prog 14 #[v] w (NewAns B D l cols):=by
 obtain⟨us,hu1,hu2,hu3,hu4⟩:=ht;obtain⟨ta,tc,rfl⟩:=hu3.shape;by_cases hlen:1≤cols.length∧cols.length≤3
 ·obtain⟨hl1,hl2⟩:=hlen
  obtain⟨W1,hW1,h1⟩:∃W,W=w.alloc (.cells #[.slice none 0 0,.slice none 0 0] tOr)∧Sat B D W (blk w.heap.size #[.slice none 0 0,.slice none 0 0] tOr::l):=⟨_,rfl,h.alloc _ _⟩;have wM:=FH hW1;have wG:=FH (show Sat B D W1 (vP D w.heap.size 0 (.slice none 0 0) (.slice none 0 0) [] []++l)from by
   have h2:=((Sat.togroup (L:=[]) h1).own_nil jY 1).own_nil bN 1;exact h2.front 3 rfl)
  have HU:=FH (And.intro hu1 (And.intro hu2 hu4));have zo:=FH hu3;have HE:=FH (show eo cols=cols.all cj by unfold eo;rw [F5 hl1,F5 hl2];rfl);obtain⟨N,hN⟩:∃N,cols.length=N:=⟨_,rfl⟩;rw [hN]at hl1 hl2 zo ⊢;have HN:=FH hN;have hb1:¬((N:Int)<1):=by omega
  have hb2:¬((3:Int)<(N:Int)):=by omega
  clear h h1 hW1 hu1 hu2 hu3 hu4 hN;go_enter Tryz.func14,Tryz.ntmps14;go_upto_region 4 with fail
  rw [←wM.out];clear wM;generalize w.heap.size=bo at wG ⊢;go_wp2_with fail
  go_loopw [19] (fun idx wr=>∃(j:Nat) (tv pv:Value) (ts:List Nat) (hs:List Value) (D2:PH),idx = .int .i64 j∧j≤N∧PH.le D D2∧ts.length=j∧hs.length=j∧(∀(i:Nat) (u:Value) (c:List Bool),hs[i]?=some u→cols[i]?=some c→RdP D2 1 u c.length (c.flatMap dt))∧(cols.take j).all cj=true∧Sat B D2 wr (vP D2 bo j tv pv ts hs++l)) (fun idx _=>N-(intOf idx).toNat)
  case atStart=>exact⟨0,.slice none 0 0,.slice none 0 0,[],[],D,rfl,Gp _,PH.le.refl _,rfl,rfl,(fun i u c h=>by simp at h),rfl,wG.out⟩
  case round =>
   obtain⟨j,tv,pv,ts,hs,D2,rfl,hj,hle,htl,hhl,hcs,hall,hsat⟩:=hrel;have wU:=FH hle;have A7:=FH htl;have Ag:=FH hhl;have xF:=FH hcs;have wZ:=FH hall;have xm:=FH hsat;clear hle htl hhl hcs hall hsat wG;by_cases hlt:j<N
   ·obtain⟨c,hc⟩:∃c,cols[j]?=some c:=⟨cols[j]'(by rw [HN.out];exact hlt),FP _⟩
    obtain⟨u,hu⟩:∃u,us[j]?=some u:=⟨us[j]'(by rw [HU.out.1,HN.out];exact hlt),FP _⟩;have hcol:RdP D2 1 u c.length (c.flatMap dt):=(HU.out.2.2 j u c hu hc).mono wU.out;obtain⟨ca,cc,rfl⟩:=hcol.shape;obtain⟨tg,tof,rfl,htc⟩:∃tg tof,ta=some ⟨tg,tof,none⟩∧wr.cell? ⟨tg,tof+j,none⟩=some (.slice ca c.length cc):=by
     obtain⟨_,_,ao,cap,hv,_,_,_,hcell⟩:=(zo.out.mono wU.out).rd xm.out;cases hv;rcases hcell with h0|⟨g,og,hg,hcc⟩
     ·omega
     ·exact⟨g,og,hg,hcc j _ hu⟩
    have hji:(j:Int)<(N:Int):=by omega
    have HC:=FH hc;have xw:=FH hcol;have wJ:=FH (xm.out.alloc #[.slice ca c.length cc] bN);clear hu hcol;go_upto_region 7 with fail
    obtain⟨W2,hW2⟩:∃W,W=wr.alloc (.cells #[.slice ca c.length cc] bN):=⟨_,rfl⟩;rw [←hW2]at wJ ⊢;clear hW2 htc xm;generalize wr.heap.size=bt at wJ ⊢;obtain⟨b0,bf⟩:=aC (wJ.out.blk 0 rfl);have ye:=FH (gq (xw.out.rd wJ.out));cases hm:cj c with
    | false =>
     rw [show chk c=1 by unfold chk;rw [hm];rfl]at ye;have yw:=FH (show eo cols=false by
      rw [HE.out,List.all_eq_false];exact⟨c,FQ hc,by rw [hm];decide⟩)
     clear hm hc;go_wp2_with (go_at_call 31;refine ye.out.mono ?_;rintro e1 w1 ⟨rfl,hk1⟩;have wI:=FH (wJ.out.kept hk1);clear hk1 ye wJ b0 bf);go_ret;refine⟨D2,wU.out,?_⟩;rw [yw.out];exact⟨rfl,wI.out.drop.drop.drop.drop.drop⟩
    | true =>
     rw [show chk c=0 by unfold chk;rw [hm];rfl]at ye;have HM:=FH hm;have ym:=FH (show cols.take (j+1)=cols.take j ++ [c] by rw [F3,hc];rfl);clear hm hc;go_upto_region 9 with (go_at_call 31;refine ye.out.mono ?_;rintro e1 w1 ⟨rfl,hk1⟩;have wI:=FH (wJ.out.kept hk1);clear hk1 ye wJ b0 bf)
     have wO:=FH (wI.out.own_fresh (e:=tBl) (size:=1) (n:=0) (cap:=0) (cs:=#[]) (xs:=[]) (Gn _) (Gp _) (Gp _) (by simp) (by intro u hu;cases hu));obtain⟨b0,bf⟩:=aC (wO.out.blk 1 rfl);have hcl:c.length≤4:=by have:=HM.out;unfold cj at this;simp at this;omega
     have BA:=FH (xw.out.rd wO.out);obtain⟨i1,hi1,hz10,hz11,hz12⟩:=info_parts infoBl;have xB:=FH (And.intro hi1 (And.intro hz10 (And.intro hz11 hz12)));clear hi1 hz10 hz11 hz12;go_upto_region 10 with (at_builtin;refine az _ rfl _ _ tBls rfl tBl i1 _ 1 1 Tryz.underlying64 xB.out.1 xB.out.2.1 xB.out.2.2.1 xB.out.2.2.2 rfl _ 0 [] rfl wO.out _ c.length (c.flatMap dt) rfl BA.out (by intro u hu;obtain⟨x,_,hx⟩:=Gi.1 hu;simp [dt]at hx;subst hx;rfl) (by unfold maxLen;omega) (by omega) ?_;intro v5 w5 hs5 h15;obtain⟨oa,oc,rfl⟩:=hs5.own_shape;have wT:=FH hs5;clear hs5 h15 wO BA wI b0 bf)
     obtain⟨D3,hle3,hown,hs6⟩:=wT.out.own_give;simp only [Nat.zero_add,List.nil_append]at hown;have xt:=FH (wU.out.trans hle3);have AT:=FH hle3;have Eb:=FH hown;obtain⟨tva,tvc,hx1⟩:∃a c,tv = .slice a j c:=(hs6.drop.front 1 rfl).own_shape;obtain⟨pva,pvc,hx2⟩:∃a c,pv = .slice a j c:=(hs6.drop.front 2 rfl).own_shape;subst hx1;subst hx2;have wK:=FH (tF hle3 hs6.drop);clear hle3 hown hs6 wT;obtain⟨c0,c1,cf⟩:=dA (wK.out.blk 0 rfl);obtain⟨i2,hi2,hz20,hz21,hz22⟩:=info_parts infoTab;have yY:=FH (And.intro hi2 (And.intro hz20 (And.intro hz21 hz22)));clear hi2 hz20 hz21 hz22;have wP:=FH (((wK.out.alloc #[.slice oa c.length oc] bN).front 2 rfl));have C6:=FH (bC (size:=1) (n:=1) (ak w5 (.cells #[.slice oa c.length oc] bN)) rfl (by unfold maxLen;omega));go_upto_region 11 with (at_builtin;go_loud (refine az _ rfl _ _ tTabs rfl bN i2 _ 1 24 Tryz.underlying22 yY.out.1 yY.out.2.1 yY.out.2.2.1 yY.out.2.2.2 rfl _ j _ rfl wP.out _ 1 _ rfl C6.out (by intro u hu;simp at hu;subst hu;rfl) (by unfold maxLen;omega) (by omega) ?_);intro v8 w8 hs8 h18;obtain⟨ua,uc,rfl⟩:=hs8.own_shape;have xQ:=FH hs8;clear hs8 h18 wP C6 wK c0 c1 cf;obtain⟨c0,c1,cf⟩:=dA (xQ.out.blk 2 rfl))
     have yi:=FH ((xQ.out.front 2 rfl).set 0 (.slice ua (j+1) uc));obtain⟨W9,hW9⟩:∃W,W=w8.setCell ⟨bo,0,none⟩ (.slice ua (j+1) uc):=⟨_,rfl⟩;rw [←hW9]at yi ⊢;clear hW9 xQ c0 c1 cf;have wW:=FH (show Sat B D3 W9 (blk bo #[.slice ua (j+1) uc,.slice pva j pvc] tOr::aD bN 1 (.slice ua (j+1) uc) (j+1) (hs ++ [.slice oa c.length oc])::blk w5.heap.size #[.slice oa c.length oc] bN::aD jY 1 (.slice pva j pvc) j (ts.map mq)::aY ((ts.zip (List.replicate j [])).map (eq D3))::l)from yi.out);clear yi;obtain⟨c0,c1,cf⟩:=dA (wW.out.blk 0 rfl);have zi:=FH (New_ok wW.out.drew);refine aH [rq 0 10,rq 1 7,rq 2 7,rq 3 7,rq 4 7,(5,true,0),(6,true,0),(7,true,0),rq 8 10,rq 9 10,(10,true,0)] ?_;(iterate 5 (refine ae rfl rfl fun K hK=>?_;go_simp;apply hK;clear hK K));refine af rfl ?_;refine al rfl fun K hK=>?_;go_simp;refine zi.out.mono ?_;rintro e10 wA ⟨t,rfl,hta⟩;have hsb:=hta.close;have hsc:Sat B D3 wA (fK D3 t []::_):=Sat.close_ex (TM.empty,([]:PL)) ⟨rp,by decide,by decide,.nil⟩ hsb;have xa:=FH hsc;clear hta hsb hsc zi wW c0 c1 cf;obtain⟨c0,c1,cf⟩:=dA (xa.out.blk 1 rfl);refine hK _ _ ?_;clear hK K;refine wpList_nil ?_;apply And.intro
     ·go_simp
     refine af rfl ?_;have xR:=FH (xa.out.alloc #[.pointer (some ⟨t,0,none⟩)] jY);have C7:=FH (bC (size:=1) (n:=1) (ak wA (.cells #[.pointer (some ⟨t,0,none⟩)] jY)) rfl (by unfold maxLen;omega));refine wpList_plain rfl fun K hK=>?_;go_simp;refine hK _ _ ?_;clear hK K;refine wpList_nil ?_;clear c0 c1 cf;obtain⟨c0,c1,cf⟩:=dA (xR.out.blk 2 rfl);have x9:=FH (xR.out.front 5 rfl);obtain⟨i3,hi3,hz30,hz31,hz32⟩:=info_parts infoPtr;have zv:=FH (And.intro hi3 (And.intro hz30 (And.intro hz31 hz32)));clear hi3 hz30 hz31 hz32;apply And.intro
     ·go_simp
     refine af rfl ?_;refine az _ rfl _ _ tPtrs rfl jY i3 _ 1 8 Tryz.underlying82 zv.out.1 zv.out.2.1 zv.out.2.2.1 zv.out.2.2.2 rfl _ j _ rfl x9.out _ 1 _ rfl C7.out (by intro u hu;simp at hu;subst hu;rfl) (by unfold maxLen;omega) (by omega) ?_;intro vE wE hsE h1E;refine wpList_nil ?_;obtain⟨qa,qc,rfl⟩:=hsE.own_shape;have yI:=FH hsE;clear hsE h1E xR x9 C7 xa c0 c1 cf;obtain⟨c0,c1,cf⟩:=dA (yI.out.blk 3 rfl);have Ds:=FH ((yI.out.front 3 rfl).set 1 (.slice qa (j+1) qc));apply And.intro
     ·go_simp
     (iterate 2 (refine ae rfl rfl fun K hK=>?_;go_simp;apply hK;clear hK K));refine af rfl ?_
     refine wpList_plain rfl fun K hK=>?_;go_simp;refine hK _ _ ?_;clear hK K;refine wpList_nil ?_;apply And.intro
     ·go_simp
     refine ag ?_;have Cv:=FH (uj (t:=t) A7.out (by rw [List.map_append];exact Ds.out));clear c0 c1 cf Ds yI;go_wp2_with fail;go_roundw
     case rel =>
      refine⟨j+1,_,_,ts ++ [t],hs ++ [.slice oa c.length oc],D3,by go_num,by omega,xt.out,by rw [FR,A7.out];rfl,by rw [FR,Ag.out];rfl,fun i u c' hu hc'=>?_,?_,Cv.out⟩
      ·by_cases hij:i<j
       ·rw [Gm (by rw [Ag.out];exact hij)]at hu
        exact(xF.out i u c' hu hc').mono AT.out
       ·have hij2:i=j:=by have:=(FO.1 hu).1;rw [FR,Ag.out,Gh]at this;omega
        subst hij2;rw [Gb (by rw [Ag.out];exact Gn _),Ag.out,Nat.sub_self]at hu;cases hu;rw [HC.out]at hc';cases hc';exact Eb.out
      ·rw [ym.out,List.all_append,wZ.out]
       simp [HM.out]
     case measure=>simp [intOf];omega
   ·obtain rfl:j=N:=by omega
    have hji:¬((j:Int)<(j:Int)):=by omega
    have An:=FH (show eo cols=true by have:=wZ.out;rw [FS (Nat.le_of_eq HN.out)]at this;rw [HE.out];exact this);have Cv:=FH (show ∃D',PH.le D D'∧Sat B D' wr (orP D' bo (fJ cols)::l)from by
     obtain⟨D3,le3,h3,s3⟩:=(xm.out.front 1 rfl).own_give;have s3':Sat B D3 wr (blk bo #[tv,pv] tOr::aD jY 1 pv j (ts.map mq)::aY ((ts.zip (List.replicate j [])).map (eq D2))::l):=s3;obtain⟨D4,le4,h4,s4⟩:=(s3'.front 1 rfl).own_give;have s4':Sat B D4 wr (blk bo #[tv,pv] tOr::aY ((ts.zip (List.replicate j [])).map (eq D2))::l):=s4;have s5:Sat B D4 wr (blk bo #[tv,pv] tOr::aY ((ts.zip (List.replicate j [])).map (eq D4))::l):=((Sat.swap s4').weaken (A':=aY ((ts.zip (List.replicate j [])).map (eq D4))) (fun h=>gj _ (fun _ _ _ h=>i4 (le3.trans le4) _ h) h)).swap;refine⟨D4,(wU.out.trans le3).trans le4,rV (O:=fJ cols) (x:=⟨tv,pv,ts⟩) ⟨⟨hs,?_,?_,?_,fun i u c hu hc=>?_⟩,?_,?_,?_⟩ ?_⟩
     ·rw [Ag.out];exact HN.out.symm
     ·obtain⟨h3a,_⟩:=h3
      intro u hu;obtain⟨i,hi⟩:=List.mem_iff_getElem?.1 hu;have hic:i<cols.length:=by have:=(FO.1 hi).1;rw [Ag.out]at this;rw [HN.out];exact this
      exact(xF.out i u cols[i] hi (FP hic)).oneV
     ·show RdP D4 1 tv cols.length hs
      rw [HN.out];exact h3.mono le4
     ·exact(xF.out i u c hu hc).mono (le3.trans le4)
     ·show RdP D4 1 pv ts.length (ts.map mq)
      rw [A7.out];exact h4
     ·show ts.length=(List.replicate cols.length ([]:aq)).length
      rw [List.length_replicate,A7.out,HN.out]
     ·show(List.replicate cols.length ([]:aq)).length=cols.length
      rw [List.length_replicate]
     ·show Sat B D4 wr (blk bo #[tv,pv] tOr::aY ((ts.zip (List.replicate cols.length [])).map (eq D4))::l)
      rw [HN.out];exact s5)
    clear xm;go_wp2_with fail;go_ret;obtain⟨D',f1,f2⟩:=Cv.out;refine⟨D',f1,?_⟩;rw [An.out];exact⟨bo,rfl,f2⟩
 ·have yw:=FH (show eo cols=false by
   unfold eo;cases hd:(decide (1≤cols.length)&&decide (cols.length≤3))
   ·rfl
   ·simp at hd;exact absurd hd hlen)
  have hor:(cols.length:Int)<1∨(¬((cols.length:Int)<1)∧(3:Int)<(cols.length:Int)):=by omega
  have HS:=FH h;generalize cols.length=N at *;clear h hu1 hu2 hu3 hu4 hlen;rcases hor with hb|⟨hb,hb2⟩
  ·go_enter Tryz.func14,Tryz.ntmps14
   go_wp2_with fail;go_ret;refine⟨D,PH.le.refl _,?_⟩;rw [yw.out];exact⟨rfl,HS.out⟩
  ·go_enter Tryz.func14,Tryz.ntmps14
   go_wp2_with fail;go_ret;refine⟨D,PH.le.refl _,?_⟩;rw [yw.out];exact⟨rfl,HS.out⟩
def ii (O:OrM)(t:Int):aq:=if 0≤t∧t<(O.tabs.length:Int)then O.tabs.getD t.toNat []else []
def RowsAns (B:World)(D:PH)(l:List HP)(o:Nat)(O:OrM)(rs:aq)(e:Ending)(w':World):Prop:=∃(a:Option Addr) (cc:Nat) (D':PH),e = .returned (.slice a rs.length cc)∧PH.le D D'∧RowsF D' (.slice a rs.length cc) rs∧Sat B D' w' (orP D' o O::l)
abbrev peT : PredE:=⟨1,0,⟨false,0,⟨#[]⟩⟩,⟨false,0,⟨#[]⟩⟩,none,0,0,[]⟩
theorem wb (m:aq):cz m peT.p bj=m:=by
 unfold cz;refine List.filter_eq_self.2 fun r _=>?_;have h1:bI bj (au r)=true:=by rfl
 have h2:peT.p.holds r=true:=by unfold PredE.p PredT.holds;rfl
 rw [h1,h2];rfl
theorem or_len {B w:World}{D:PH}{o:Nat}{O:OrM}{l:List HP}(h:Sat B D w (orP D o O::l)):∃pa pc,w.cell? ⟨o,1,none⟩=some (.slice pa O.tabs.length pc):=by
 obtain⟨y,hy,hs⟩:=gB h;obtain⟨_,d1⟩:=dJ hs;obtain⟨pa,pc,hv⟩:=hy.2.1.shape;rw [hv,hy.2.2.1]at d1;exact⟨pa,pc,d1⟩
theorem sD {B w:World}{D:PH}{o n:Nat}{O:OrM}{l:List HP}(t:Int)(hI:OrI n O)(h:Sat B D w (orP D o O::l)) :
  Calls Tryz.prog 21 #[.pointer (some ⟨o,0,none⟩),.int .i64 t] w (RowsAns B D l o O (ii O t)):=by
 obtain⟨pa,pc,d1⟩:=or_len h;by_cases h0:0≤t
 ·by_cases h1:t<(O.tabs.length:Int)
  ·obtain⟨i,rfl⟩:∃i:Nat,t=(i:Int):=⟨t.toNat,by omega⟩
   have hil:i<O.tabs.length:=by omega
   have hm:=FP hil;have hic:i<O.cols.length:=by rw [←hI.well.1];exact hil
   have hT:=(hI.well.2 i _ _ (FP hic) hm).1;have HR:=FH (show ii O (i:Int)=O.tabs[i] by unfold ii;rw [if_pos ⟨by omega,h1⟩,F6,FW,hm];rfl);have xJ:=FH (oE (pe:=peT) bj hm (fun r hr=>(hT.short r hr).2) (.mk _ [] (RdP.nil _ _) (by intro e he;cases he)) h);rw [wb]at xJ;have hge:¬((O.tabs.length:Int)≤(i:Int)):=by omega
   have hneg:¬((i:Int)<0):=by omega
   generalize O.tabs[i]=m at *;generalize O.tabs.length=TN at *;clear hm hic hT h hI hil;go_enter Tryz.func21,Tryz.ntmps21;go_wp2_with (go_at_call 43;refine xJ.out.mono ?_;rintro e2 w2 ⟨a,n2,cc,D',rfl,hle,hr,hs⟩;have HF:=FH (And.intro hle (And.intro hr hs));clear hle hr hs xJ d1);go_ret;have hn:=cK HF.out.2.1;subst hn;rw [HR.out];exact⟨a,cc,D',rfl,HF.out.1,HF.out.2.1,HF.out.2.2⟩
  ·have HR:=FH (show ii O t = [] by unfold ii;rw [if_neg (by omega)])
   have HS:=FH h;have hneg:¬(t<0):=by omega
   have hge:(O.tabs.length:Int)≤t:=by omega
   generalize O.tabs.length=TN at *;clear h hI;go_enter Tryz.func21,Tryz.ntmps21;go_wp2_with fail;go_ret;rw [HR.out];exact⟨none,0,D,rfl,PH.le.refl _,RowsF.nil _,HS.out⟩
 ·have HR:=FH (show ii O t = [] by unfold ii;rw [if_neg (by omega)])
  have HS:=FH h;have hneg:t<0:=by omega
  clear h hI h0;go_enter Tryz.func21,Tryz.ntmps21;go_wp2_with fail;go_ret;rw [HR.out];exact⟨none,0,D,rfl,PH.le.refl _,RowsF.nil _,HS.out⟩
end Go.Proofs.YtdobimafhbfkhaaGreat
