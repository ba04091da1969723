/- The document's part, May of predicates (ratlineref03). -/
import Derived.Test.YtdobimafhbfkhaaGreatOY38
set_option maxHeartbeats 64000000
namespace Go.Proofs.YtdobimafhbfkhaaGreat
open Go.ChangeShapes Go.WideShapes Go.ChangeAt Go.RowKit
set_option maxRecDepth 100000
set_option linter.unusedSimpArgs false
theorem uG {cv:Value}{c:List Bool}:∀(p:PredT) (x:PredE) (w:World),x.p=p→fH w cv c→PredsRd w (.slice x.la x.ln x.lc) x.subs →
  Calls Tryz.prog 45 #[.agg #[cv],.agg x.cells.toArray] w fun e w'=>e = .returned (.bool (p.nodes.all (aI c)))∧Kept (fun _=>False) w w':=by
 refine PredT.ind fun op col v w0 pl ih x w hx hc hat=>?_;have hl:x.subs=pl:=by unfold PredE.p at hx;cases hx;rfl
 obtain⟨W1,hW1,hk1,hb1,hb2⟩:=pw w #[cv] x.cells.toArray bN tPr;have hat1:=hat.kept hk1;have hc1:=Rd.kept hc hk1 (fun _ _ h=>h);obtain⟨es,hrd,hsub,hes⟩:∃es:List PredE,Rd W1 9 (.slice x.la x.ln x.lc) es.length (es.flatMap PredE.cells)∧x.subs=es.map PredE.p∧∀e∈es,PredsRd W1 (.slice e.la e.ln e.lc) e.subs:=by
  generalize x.subs=xs at hat1;cases hat1 with
  | mk _ es he hes=>exact⟨es,he,rfl,hes⟩
 obtain⟨_,_,ca,cc,rfl,_⟩:=id hc;have zt:=FH (show(PredT.mk op col v w0 pl).nodes.all (aI c)=(aI c (.mk op col v w0 pl)&&es.all (fun e=>e.p.nodes.all (aI c))) by rw [iz,←hl,hsub,List.all_cons,List.flatMap_map,List.all_flatMap]);obtain⟨_,_,ra,rc,hav,_⟩:=id hrd;have hln:x.ln=es.length:=(Value.slice.inj hav).2.1;have hml:=hrd.2.1;unfold maxLen at hml;obtain⟨N,hN⟩:∃N,es.length=N:=⟨_,rfl⟩;rw [hln,hN]at hrd;rw [hN]at hml;have yZ:=FH (show ∀(j:Nat) (e:PredE) (W:World),es[j]?=some e→Kept (fun _=>False) W1 W→Calls Tryz.prog 45 #[.agg #[.slice ca c.length cc],.agg e.cells.toArray] W fun r w'=>r = .returned (.bool (e.p.nodes.all (aI c)))∧Kept (fun _=>False) W w' from
  fun j e W he k=>ih e.p (by rw [←hl,hsub];exact List.mem_map_of_mem (FQ he)) e W rfl (Rd.kept hc1 k (fun _ _ h=>h)) ((hes e (FQ he)).kept k))
 have wQ:=FH hrd;have HN:=FH hN;have yq:=FH (show pl.length=N by rw [←hl,hsub,FZ,hN]);have yg:=FH (show x.ln=N by rw [hln,hN]);have Dd:=FH (show x.op=op∧x.col=col∧x.v=v∧x.w=w0 by unfold PredE.p at hx;cases hx;exact⟨rfl,rfl,rfl,rfl⟩);have xG:=FH hc1;have wM:=FH hW1;have wN:=FH hk1;have wL:=FH hb1;have wX:=FH hb2;obtain⟨rr,hrr⟩:∃rr,rr=(PredT.mk op col v w0 pl).nodes.all (aI c):=⟨_,rfl⟩;rw [←hrr];have xD:=FH hrr;clear ih hx hat hat1 hl hsub hes hrd hav hln hN hW1 hk1 hb1 hb2 hrr hc hc1;go_enter Tryz.func45,Tryz.ntmps45;go_upto_region 1 with fail
 rw [←wM.out];clear wM;generalize w.heap.size+1=b2 at *;generalize w.heap.size=b1 at *;obtain⟨la,hla⟩:∃la,la=x.la:=⟨_,rfl⟩;obtain⟨lc,hlc⟩:∃lc,lc=x.lc:=⟨_,rfl⟩;have HB:=FH (show ∀W,Kept (fun _=>False) W1 W→W.cell? ⟨b2,0,none⟩=some (.int .i64 op)∧W.cell? ⟨b2,1,none⟩=some (.int .i64 col)∧W.cell? ⟨b2,2,none⟩=some (.bool v.t)∧W.cell? ⟨b2,3,none⟩=some (.int .i64 v.n)∧W.cell? ⟨b2,4,none⟩=some (.string v.s)∧W.cell? ⟨b2,5,none⟩=some (.bool w0.t)∧W.cell? ⟨b2,6,none⟩=some (.int .i64 w0.n)∧W.cell? ⟨b2,7,none⟩=some (.string w0.s)∧W.cell? ⟨b2,8,none⟩=some (.slice la N lc)∧W.cell? ⟨b1,0,none⟩=some (.slice ca c.length cc)from fun W k=>by
  obtain⟨h0,h1,h2,h3,h4,h5,h6,h7,h8⟩:=cu (aA k wX.out);rw [yg.out,←hla,←hlc]at h8;rw [Dd.out.1]at h0;rw [Dd.out.2.1]at h1;rw [Dd.out.2.2.1]at h2 h3 h4;rw [Dd.out.2.2.2]at h5 h6 h7;exact⟨h0,h1,h2,h3,h4,h5,h6,h7,h8,(aC (aA k wL.out)).1⟩)
 rw [←hla,←hlc]at wQ;clear hla hlc Dd yg wL wX;go_wp2_with fail
 go_loopw [5] (fun i wr=>∃j:Nat,i = .int .i64 j∧j≤N∧(es.take j).all (fun e=>e.p.nodes.all (aI c))=true∧Kept (fun _=>False) W1 wr) (fun i _=>N-(intOf i).toNat)
 case atStart=>exact⟨0,rfl,by omega,rfl,Kept.refl _ _⟩
 case round =>
  obtain⟨j,rfl,hj,hyes,hk⟩:=hrel;have HK:=FH hk;have HY:=FH hyes;obtain⟨x0,x1,x2,x3,x4,x5,x6,x7,x8,t0⟩:=HB.out wr hk;clear hk hyes;by_cases hlt:j<N
  ·have hii:(j:Int)<(N:Int):=by omega
   obtain⟨e,he⟩:∃e,es[j]?=some e:=⟨es[j]'(by rw [HN.out];exact hlt),FP _⟩;obtain⟨g,og,rfl,hrng⟩:=bi PredE.len (Rd.kept wQ.out HK.out.drew (fun _ _ h=>h)) he HN.out;have HL:=FH (dh (w:=wr.drew) hrng);have HC:=FH (yZ.out j e wr.drew he HK.out.drew);have xm:=FH (show(es.take (j+1)).all (fun e=>e.p.nodes.all (aI c))=e.p.nodes.all (aI c) by rw [F3,he,List.all_append,HY.out];simp);have AW:=FH (FQ he);clear he hrng;go_upto_region 4 with fail
   cases hb:e.p.nodes.all (aI c)
   ·rw [hb]at HC
    have HF:=FH (show es.all (fun e=>e.p.nodes.all (aI c))=false from List.all_eq_false.2 ⟨e,AW.out,by rw [hb];simp⟩);clear hb;refine aH [rq 0 6,rq 1 6,rq 2 6,rq 3 6,rq 4 6,rq 5 6,(6,true,0),rq 7 999] ?_;(iterate 6 (refine ae rfl rfl fun K hK=>?_;(first|((refine bF _ _ rfl _ _ rfl _ HL.out ?_);go_simp)|go_simp);apply hK;clear hK K));refine af rfl ?_;refine al rfl fun K hK=>?_;go_simp;refine HC.out.mono ?_;rintro e4 w4 ⟨rfl,hk4⟩;have xO:=FH (HK.out.drew.trans hk4 (fun _ h=>h.elim));clear hk4 HC HL x0 x1 x2 x3 x4 x5 x6 x7 x8 t0;refine hK _ _ ?_;clear hK K;refine wpList_nil ?_;apply And.intro
    ·go_simp
    refine ae rfl rfl fun K hK=>?_;(first|((refine bF _ _ rfl _ _ rfl _ HL.out ?_);go_simp)|go_simp);apply hK;clear hK K;refine ag ?_;go_wp2_with fail;go_ret;exact⟨by rw [xD.out,zt.out,HF.out];simp,wN.out.trans xO.out (fun _ h=>h.elim)⟩
   ·rw [hb]at HC xm
    clear hb;refine aH [rq 0 6,rq 1 6,rq 2 6,rq 3 6,rq 4 6,rq 5 6,(6,true,0),rq 7 999] ?_;(iterate 6 (refine ae rfl rfl fun K hK=>?_;(first|((refine bF _ _ rfl _ _ rfl _ HL.out ?_);go_simp)|go_simp);apply hK;clear hK K));refine af rfl ?_;refine al rfl fun K hK=>?_;go_simp;refine HC.out.mono ?_;rintro e4 w4 ⟨rfl,hk4⟩;have xO:=FH (HK.out.drew.trans hk4 (fun _ h=>h.elim));clear hk4 HC HL x0 x1 x2 x3 x4 x5 x6 x7 x8 t0;refine hK _ _ ?_;clear hK K;refine wpList_nil ?_;apply And.intro
    ·go_simp
    refine ae rfl rfl fun K hK=>?_;(first|((refine bF _ _ rfl _ _ rfl _ HL.out ?_);go_simp)|go_simp);apply hK;clear hK K;refine ag ?_;go_wp2_with fail;go_roundw
    case rel=>exact⟨j+1,by go_num,by omega,xm.out,xO.out⟩
    case measure=>simp [intOf];omega
  ·have hii:¬((j:Int)<(N:Int)):=by omega
   have wZ:=FH (show rr=aI c (.mk op col v w0 pl) by rw [xD.out,zt.out,show es.all (fun e=>e.p.nodes.all (aI c))=true by have:=HY.out;rwa [FS (by rw [HN.out];omega)]at this];simp);have yh:=FH (wN.out.trans HK.out (fun _ h=>h.elim));clear xD zt yZ wQ;go_upto_region 7 with fail
   by_cases hop:1≤op∧op≤12
   ·have h12:op=1∨op=2∨op=3∨op=4∨op=5∨op=6∨op=7∨op=8∨op=9∨op=10∨op=11∨op=12:=by omega
    clear hop;rcases h12 with rfl|rfl|rfl|rfl|rfl|rfl|rfl|rfl|rfl|rfl|rfl|rfl
    ·skip
     by_cases h0:N=0
     ·have hp:pl = []:=F7.1 (by rw [yq.out];exact h0)
      have hN1:((N:Int) == 0)=true:=by simp [h0]
      have hN2:¬(N:Int) > 0:=by omega
      have HO:=FH (show aI c (.mk 1 col v w0 pl)=true by unfold aI;simp only [PredT.op,PredT.col,PredT.v,PredT.w,PredT.l];simp [hp]);go_wp2_with fail;go_ret;exact⟨by rw [wZ.out,HO.out];rfl,yh.out⟩
     ·have hp:pl.isEmpty=false:=by cases hq:pl with|nil=>exact absurd (by have:=yq.out;rw [hq]at this;exact this.symm) h0|cons _ _=>rfl
      have hN1:((N:Int) == 0)=false:=by simp [h0]
      have hN2:(N:Int) > 0:=by omega
      have HO:=FH (show aI c (.mk 1 col v w0 pl)=false by unfold aI;simp only [PredT.op,PredT.col,PredT.v,PredT.w,PredT.l];simp [hp]);go_wp2_with fail;go_ret;exact⟨by rw [wZ.out,HO.out];rfl,yh.out⟩
    ·skip
     by_cases h0:N=0
     ·have hp:pl = []:=F7.1 (by rw [yq.out];exact h0)
      have hN1:((N:Int) == 0)=true:=by simp [h0]
      have hN2:¬(N:Int) > 0:=by omega
      have HO:=FH (show aI c (.mk 2 col v w0 pl)=true by unfold aI;simp only [PredT.op,PredT.col,PredT.v,PredT.w,PredT.l];simp [hp]);go_wp2_with fail;go_ret;exact⟨by rw [wZ.out,HO.out];rfl,yh.out⟩
     ·have hp:pl.isEmpty=false:=by cases hq:pl with|nil=>exact absurd (by have:=yq.out;rw [hq]at this;exact this.symm) h0|cons _ _=>rfl
      have hN1:((N:Int) == 0)=false:=by simp [h0]
      have hN2:(N:Int) > 0:=by omega
      have HO:=FH (show aI c (.mk 2 col v w0 pl)=false by unfold aI;simp only [PredT.op,PredT.col,PredT.v,PredT.w,PredT.l];simp [hp]);go_wp2_with fail;go_ret;exact⟨by rw [wZ.out,HO.out];rfl,yh.out⟩
    ·skip
     by_cases h0:N=0
     ·have hp:pl = []:=F7.1 (by rw [yq.out];exact h0)
      have hN1:((N:Int) == 0)=true:=by simp [h0]
      have hN2:¬(N:Int) > 0:=by omega
      have HO:=FH (show aI c (.mk 3 col v w0 pl)=cC c col v by unfold aI;simp only [PredT.op,PredT.col,PredT.v,PredT.w,PredT.l];simp [hp]);have xS:=FH (fj col v (Rd.kept xG.out HK.out (fun _ _ h=>h)));generalize cC c col v=cb at *;go_wp2_with (go_at_call 65;refine xS.out.mono ?_;rintro e5 w5 ⟨rfl,hk5⟩;have xj:=FH (yh.out.trans hk5 (fun _ h=>h.elim));clear hk5 xS x0 x1 x2 x3 x4 x5 x6 x7 x8 t0);go_ret;exact⟨by rw [wZ.out,HO.out];rfl,xj.out⟩
     ·have hp:pl.isEmpty=false:=by cases hq:pl with|nil=>exact absurd (by have:=yq.out;rw [hq]at this;exact this.symm) h0|cons _ _=>rfl
      have hN1:((N:Int) == 0)=false:=by simp [h0]
      have hN2:(N:Int) > 0:=by omega
      have HO:=FH (show aI c (.mk 3 col v w0 pl)=false by unfold aI;simp only [PredT.op,PredT.col,PredT.v,PredT.w,PredT.l];simp [hp]);go_wp2_with fail;go_ret;exact⟨by rw [wZ.out,HO.out];rfl,yh.out⟩
    ·skip
     by_cases h0:N=0
     ·have hp:pl = []:=F7.1 (by rw [yq.out];exact h0)
      have hN1:((N:Int) == 0)=true:=by simp [h0]
      have hN2:¬(N:Int) > 0:=by omega
      have HO:=FH (show aI c (.mk 4 col v w0 pl)=cC c col v by unfold aI;simp only [PredT.op,PredT.col,PredT.v,PredT.w,PredT.l];simp [hp]);have xS:=FH (fj col v (Rd.kept xG.out HK.out (fun _ _ h=>h)));generalize cC c col v=cb at *;go_wp2_with (go_at_call 65;refine xS.out.mono ?_;rintro e5 w5 ⟨rfl,hk5⟩;have xj:=FH (yh.out.trans hk5 (fun _ h=>h.elim));clear hk5 xS x0 x1 x2 x3 x4 x5 x6 x7 x8 t0);go_ret;exact⟨by rw [wZ.out,HO.out];rfl,xj.out⟩
     ·have hp:pl.isEmpty=false:=by cases hq:pl with|nil=>exact absurd (by have:=yq.out;rw [hq]at this;exact this.symm) h0|cons _ _=>rfl
      have hN1:((N:Int) == 0)=false:=by simp [h0]
      have hN2:(N:Int) > 0:=by omega
      have HO:=FH (show aI c (.mk 4 col v w0 pl)=false by unfold aI;simp only [PredT.op,PredT.col,PredT.v,PredT.w,PredT.l];simp [hp]);go_wp2_with fail;go_ret;exact⟨by rw [wZ.out,HO.out];rfl,yh.out⟩
    ·skip
     by_cases h0:N=0
     ·have hp:pl = []:=F7.1 (by rw [yq.out];exact h0)
      have hN1:((N:Int) == 0)=true:=by simp [h0]
      have hN2:¬(N:Int) > 0:=by omega
      have HO:=FH (show aI c (.mk 5 col v w0 pl)=cC c col v by unfold aI;simp only [PredT.op,PredT.col,PredT.v,PredT.w,PredT.l];simp [hp]);have xS:=FH (fj col v (Rd.kept xG.out HK.out (fun _ _ h=>h)));generalize cC c col v=cb at *;go_wp2_with (go_at_call 65;refine xS.out.mono ?_;rintro e5 w5 ⟨rfl,hk5⟩;have xj:=FH (yh.out.trans hk5 (fun _ h=>h.elim));clear hk5 xS x0 x1 x2 x3 x4 x5 x6 x7 x8 t0);go_ret;exact⟨by rw [wZ.out,HO.out];rfl,xj.out⟩
     ·have hp:pl.isEmpty=false:=by cases hq:pl with|nil=>exact absurd (by have:=yq.out;rw [hq]at this;exact this.symm) h0|cons _ _=>rfl
      have hN1:((N:Int) == 0)=false:=by simp [h0]
      have hN2:(N:Int) > 0:=by omega
      have HO:=FH (show aI c (.mk 5 col v w0 pl)=false by unfold aI;simp only [PredT.op,PredT.col,PredT.v,PredT.w,PredT.l];simp [hp]);go_wp2_with fail;go_ret;exact⟨by rw [wZ.out,HO.out];rfl,yh.out⟩
    ·skip
     by_cases h0:N=0
     ·have hp:pl = []:=F7.1 (by rw [yq.out];exact h0)
      have hN1:((N:Int) == 0)=true:=by simp [h0]
      have hN2:¬(N:Int) > 0:=by omega
      have HO:=FH (show aI c (.mk 6 col v w0 pl)=cC c col v by unfold aI;simp only [PredT.op,PredT.col,PredT.v,PredT.w,PredT.l];simp [hp]);have xS:=FH (fj col v (Rd.kept xG.out HK.out (fun _ _ h=>h)));generalize cC c col v=cb at *;go_wp2_with (go_at_call 65;refine xS.out.mono ?_;rintro e5 w5 ⟨rfl,hk5⟩;have xj:=FH (yh.out.trans hk5 (fun _ h=>h.elim));clear hk5 xS x0 x1 x2 x3 x4 x5 x6 x7 x8 t0);go_ret;exact⟨by rw [wZ.out,HO.out];rfl,xj.out⟩
     ·have hp:pl.isEmpty=false:=by cases hq:pl with|nil=>exact absurd (by have:=yq.out;rw [hq]at this;exact this.symm) h0|cons _ _=>rfl
      have hN1:((N:Int) == 0)=false:=by simp [h0]
      have hN2:(N:Int) > 0:=by omega
      have HO:=FH (show aI c (.mk 6 col v w0 pl)=false by unfold aI;simp only [PredT.op,PredT.col,PredT.v,PredT.w,PredT.l];simp [hp]);go_wp2_with fail;go_ret;exact⟨by rw [wZ.out,HO.out];rfl,yh.out⟩
    ·skip
     by_cases h0:N=0
     ·have hp:pl = []:=F7.1 (by rw [yq.out];exact h0)
      have hN1:((N:Int) == 0)=true:=by simp [h0]
      have hN2:¬(N:Int) > 0:=by omega
      have HO:=FH (show aI c (.mk 7 col v w0 pl)=cC c col v by unfold aI;simp only [PredT.op,PredT.col,PredT.v,PredT.w,PredT.l];simp [hp]);have xS:=FH (fj col v (Rd.kept xG.out HK.out (fun _ _ h=>h)));generalize cC c col v=cb at *;go_wp2_with (go_at_call 65;refine xS.out.mono ?_;rintro e5 w5 ⟨rfl,hk5⟩;have xj:=FH (yh.out.trans hk5 (fun _ h=>h.elim));clear hk5 xS x0 x1 x2 x3 x4 x5 x6 x7 x8 t0);go_ret;exact⟨by rw [wZ.out,HO.out];rfl,xj.out⟩
     ·have hp:pl.isEmpty=false:=by cases hq:pl with|nil=>exact absurd (by have:=yq.out;rw [hq]at this;exact this.symm) h0|cons _ _=>rfl
      have hN1:((N:Int) == 0)=false:=by simp [h0]
      have hN2:(N:Int) > 0:=by omega
      have HO:=FH (show aI c (.mk 7 col v w0 pl)=false by unfold aI;simp only [PredT.op,PredT.col,PredT.v,PredT.w,PredT.l];simp [hp]);go_wp2_with fail;go_ret;exact⟨by rw [wZ.out,HO.out];rfl,yh.out⟩
    ·skip
     by_cases h0:N=0
     ·have hp:pl = []:=F7.1 (by rw [yq.out];exact h0)
      have hN1:((N:Int) == 0)=true:=by simp [h0]
      have hN2:¬(N:Int) > 0:=by omega
      have HO:=FH (show aI c (.mk 8 col v w0 pl)=cC c col v by unfold aI;simp only [PredT.op,PredT.col,PredT.v,PredT.w,PredT.l];simp [hp]);have xS:=FH (fj col v (Rd.kept xG.out HK.out (fun _ _ h=>h)));generalize cC c col v=cb at *;go_wp2_with (go_at_call 65;refine xS.out.mono ?_;rintro e5 w5 ⟨rfl,hk5⟩;have xj:=FH (yh.out.trans hk5 (fun _ h=>h.elim));clear hk5 xS x0 x1 x2 x3 x4 x5 x6 x7 x8 t0);go_ret;exact⟨by rw [wZ.out,HO.out];rfl,xj.out⟩
     ·have hp:pl.isEmpty=false:=by cases hq:pl with|nil=>exact absurd (by have:=yq.out;rw [hq]at this;exact this.symm) h0|cons _ _=>rfl
      have hN1:((N:Int) == 0)=false:=by simp [h0]
      have hN2:(N:Int) > 0:=by omega
      have HO:=FH (show aI c (.mk 8 col v w0 pl)=false by unfold aI;simp only [PredT.op,PredT.col,PredT.v,PredT.w,PredT.l];simp [hp]);go_wp2_with fail;go_ret;exact⟨by rw [wZ.out,HO.out];rfl,yh.out⟩
    ·skip
     by_cases h0:N=0
     ·have hp:pl = []:=F7.1 (by rw [yq.out];exact h0)
      have hN1:((N:Int) == 0)=true:=by simp [h0]
      have hN2:¬(N:Int) > 0:=by omega
      cases hv:cC c col v
      ·have HV:=FH hv
       have HO:=FH (show aI c (.mk 9 col v w0 pl)=false by unfold aI;simp only [PredT.op,PredT.col,PredT.v,PredT.w,PredT.l];simp [hv]);have xS:=FH (fj col v (Rd.kept xG.out HK.out (fun _ _ h=>h)));rw [HV.out]at xS;clear hv;go_wp2_with (go_at_call 65;refine xS.out.mono ?_;rintro e5 w5 ⟨rfl,hk5⟩;have xj:=FH (yh.out.trans hk5 (fun _ h=>h.elim));clear hk5 xS x0 x1 x2 x3 x4 x5 x6 x7 x8 t0);go_ret;exact⟨by rw [wZ.out,HO.out];rfl,xj.out⟩
      ·have HV:=FH hv
       have HO:=FH (show aI c (.mk 9 col v w0 pl)=cC c col w0 by unfold aI;simp only [PredT.op,PredT.col,PredT.v,PredT.w,PredT.l];simp [hp,hv]);have xS:=FH (fj col v (Rd.kept xG.out HK.out (fun _ _ h=>h)));rw [HV.out]at xS;go_wp2_with (first|(go_at_call 65;refine xS.out.mono ?_;rintro e5 w5 ⟨rfl,hk5⟩;have xj:=FH (yh.out.trans hk5 (fun _ h=>h.elim));have xY:=FH (HK.out.trans hk5 (fun _ h=>h.elim));have BD:=FH (fj col w0 (Rd.kept xG.out xY.out (fun _ _ h=>h)));clear hk5 xS x0 x1 x2 x3 x4 x5 x6 x7 x8 t0;obtain⟨x0,x1,x2,x3,x4,x5,x6,x7,x8,t0⟩:=HB.out w5 xY.out)|(go_at_call 65;refine BD.out.mono ?_;rintro e6 w6 ⟨rfl,hk6⟩;have Cr:=FH (xj.out.trans hk6 (fun _ h=>h.elim));clear hk6 BD x0 x1 x2 x3 x4 x5 x6 x7 x8 t0));go_ret;exact⟨by rw [wZ.out,HO.out];rfl,Cr.out⟩
     ·have hp:pl.isEmpty=false:=by cases hq:pl with|nil=>exact absurd (by have:=yq.out;rw [hq]at this;exact this.symm) h0|cons _ _=>rfl
      have hN1:((N:Int) == 0)=false:=by simp [h0]
      have hN2:(N:Int) > 0:=by omega
      have HO:=FH (show aI c (.mk 9 col v w0 pl)=false by unfold aI;simp only [PredT.op,PredT.col,PredT.v,PredT.w,PredT.l];simp [hp]);go_wp2_with fail;go_ret;exact⟨by rw [wZ.out,HO.out];rfl,yh.out⟩
    ·skip
     by_cases h0:N=1
     ·have hN1:((N:Int) == 1)=true:=by simp [h0]
      have HO:=FH (show aI c (.mk 10 col v w0 pl)=true by unfold aI;simp only [PredT.op,PredT.col,PredT.v,PredT.w,PredT.l];simp [yq.out,h0]);go_wp2_with fail;go_ret;exact⟨by rw [wZ.out,HO.out];rfl,yh.out⟩
     ·have hN1:((N:Int) == 1)=false:=by simp;omega
      have HO:=FH (show aI c (.mk 10 col v w0 pl)=false by unfold aI;simp only [PredT.op,PredT.col,PredT.v,PredT.w,PredT.l];simp [yq.out,h0]);go_wp2_with fail;go_ret;exact⟨by rw [wZ.out,HO.out];rfl,yh.out⟩
    ·skip
     by_cases h0:N=0
     ·have hp:pl = []:=F7.1 (by rw [yq.out];exact h0)
      have hN1:((N:Int) == 0)=true:=by simp [h0]
      have hN2:¬(N:Int) > 0:=by omega
      have HO:=FH (show aI c (.mk 11 col v w0 pl)=false by unfold aI;simp only [PredT.op,PredT.col,PredT.v,PredT.w,PredT.l];simp [hp]);go_wp2_with fail;go_ret;exact⟨by rw [wZ.out,HO.out];rfl,yh.out⟩
     ·have hp:pl.isEmpty=false:=by cases hq:pl with|nil=>exact absurd (by have:=yq.out;rw [hq]at this;exact this.symm) h0|cons _ _=>rfl
      have hN1:((N:Int) == 0)=false:=by simp [h0]
      have hN2:(N:Int) > 0:=by omega
      have HO:=FH (show aI c (.mk 11 col v w0 pl)=true by unfold aI;simp only [PredT.op,PredT.col,PredT.v,PredT.w,PredT.l];simp [yq.out];omega);go_wp2_with fail;go_ret;exact⟨by rw [wZ.out,HO.out];exact congrArg (fun b=>Ending.returned (Value.bool b)) (F5 (by omega)),yh.out⟩
    ·skip
     by_cases h0:N=0
     ·have hp:pl = []:=F7.1 (by rw [yq.out];exact h0)
      have hN1:((N:Int) == 0)=true:=by simp [h0]
      have hN2:¬(N:Int) > 0:=by omega
      have HO:=FH (show aI c (.mk 12 col v w0 pl)=false by unfold aI;simp only [PredT.op,PredT.col,PredT.v,PredT.w,PredT.l];simp [hp]);go_wp2_with fail;go_ret;exact⟨by rw [wZ.out,HO.out];rfl,yh.out⟩
     ·have hp:pl.isEmpty=false:=by cases hq:pl with|nil=>exact absurd (by have:=yq.out;rw [hq]at this;exact this.symm) h0|cons _ _=>rfl
      have hN1:((N:Int) == 0)=false:=by simp [h0]
      have hN2:(N:Int) > 0:=by omega
      have HO:=FH (show aI c (.mk 12 col v w0 pl)=true by unfold aI;simp only [PredT.op,PredT.col,PredT.v,PredT.w,PredT.l];simp [yq.out];omega);go_wp2_with fail;go_ret;exact⟨by rw [wZ.out,HO.out];exact congrArg (fun b=>Ending.returned (Value.bool b)) (F5 (by omega)),yh.out⟩
   ·have n1:¬op=1:=by omega
    have n2:¬op=2:=by omega
    have n3:¬op=3:=by omega
    have n4:¬op=4:=by omega
    have n5:¬op=5:=by omega
    have n6:¬op=6:=by omega
    have n7:¬op=7:=by omega
    have n8:¬op=8:=by omega
    have n9:¬op=9:=by omega
    have n10:¬op=10:=by omega
    have n11:¬op=11:=by omega
    have n12:¬op=12:=by omega
    have HO:=FH (show aI c (.mk op col v w0 pl)=false by unfold aI;rw [if_neg (show ¬((PredT.mk op col v w0 pl).op=1∨(PredT.mk op col v w0 pl).op=2) by show ¬(op=1∨op=2);omega),if_neg (show ¬(3≤(PredT.mk op col v w0 pl).op∧(PredT.mk op col v w0 pl).op≤8) by show ¬(3≤op∧op≤8);omega),if_neg (show ¬((PredT.mk op col v w0 pl).op=9) by show ¬(op=9);omega),if_neg (show ¬((PredT.mk op col v w0 pl).op=10) by show ¬(op=10);omega),if_neg (show ¬((PredT.mk op col v w0 pl).op=11∨(PredT.mk op col v w0 pl).op=12) by show ¬(op=11∨op=12);omega)]);go_wp2_with fail;go_ret;exact⟨by rw [wZ.out,HO.out];rfl,yh.out⟩
theorem wh {w:World}{cv:Value}{c:List Bool}(x:PredE)(hc:fH w cv c)(hm:cj c=true)(hat:PredsRd w (.slice x.la x.ln x.lc) x.subs)(hn:x.p.nodes.length≤1000000) :
  Calls Tryz.prog 29 #[.agg #[cv],.agg x.cells.toArray] w fun e w'=>e = .returned (.bool (bY c x.p))∧Kept (fun _=>False) w w':=by
 obtain⟨W1,hW1,hk1,hb1,hb2⟩:=pw w #[cv] x.cells.toArray bN tPr;have hc1:=Rd.kept hc hk1 (fun _ _ h=>h);have yx:=FH (lp hc1);rw [show lj c=true from hm]at yx;have xG:=FH hc1;have Bw:=FH (hat.kept hk1);have wM:=FH hW1;have wN:=FH hk1;have wL:=FH hb1;have wX:=FH hb2;have yV:=FH hn;obtain⟨_,_,ca,cc,rfl,_⟩:=id hc;obtain⟨rr,hrr⟩:∃rr,rr=bY c x.p:=⟨_,rfl⟩;rw [←hrr];have xD:=FH hrr;clear hc hc1 hat hn hW1 hk1 hb1 hb2 hrr hm;go_enter Tryz.func29,Tryz.ntmps29;go_upto_region 1 with fail
 rw [←wM.out];clear wM;generalize w.heap.size+1=b2 at *;generalize w.heap.size=b1 at *;obtain⟨t0,tf⟩:=aC wL.out;go_upto_region 2 with (go_at_call 38;refine yx.out.mono ?_;rintro e1 w1 ⟨rfl,hk1⟩;have xY:=FH hk1;clear hk1 yx t0 tf)
 obtain⟨t0,tf⟩:=aC (aA xY.out wL.out);have HL:=FH (dh (aj (aA xY.out wX.out)));have xl:=FH (lI x.p x w1 rfl yV.out (Bw.out.kept xY.out));obtain⟨N,hN⟩:∃N,x.p.nodes.length=N:=⟨_,rfl⟩;rw [hN]at xl;have HN:=FH hN;clear hN;by_cases h15:N≤15
 ·have HO:=FH (show bY c x.p=x.p.nodes.all (aI c) by unfold bY;rw [HN.out,F5 h15];simp)
  have h1:(N:Int)≤15:=by omega
  go_wp2_with (first
   | (refine gL rfl _ _ rfl _ _ rfl _ HL.out ?_)
   | (go_at_call 30;refine xl.out.mono ?_;rintro e2 w2 ⟨rfl,hk2⟩;have wV:=FH (xY.out.trans hk2 (fun _ h=>h.elim));clear hk2 xl HL t0 tf;obtain⟨t0,tf⟩:=aC (aA wV.out wL.out);have HL:=FH (dh (aj (aA wV.out wX.out)));have BF:=FH (uG x.p x w2 rfl (Rd.kept xG.out wV.out (fun _ _ h=>h)) (Bw.out.kept wV.out)))
   | (go_at_call 45;refine BF.out.mono ?_;rintro e3 w3 ⟨rfl,hk3⟩;have xV:=FH (wV.out.trans hk3 (fun _ h=>h.elim));clear hk3 BF HL t0 tf))
  go_ret;exact⟨by rw [xD.out,HO.out];rfl,wN.out.trans xV.out (fun _ h=>h.elim)⟩
 ·have HO:=FH (show bY c x.p=false by unfold bY;rw [HN.out,FY h15];simp)
  have h1:¬(N:Int)≤15:=by omega
  go_wp2_with (first
   | (refine gL rfl _ _ rfl _ _ rfl _ HL.out ?_)
   | (go_at_call 30;refine xl.out.mono ?_;rintro e2 w2 ⟨rfl,hk2⟩;have wV:=FH (xY.out.trans hk2 (fun _ h=>h.elim));clear hk2 xl HL t0 tf))
  go_ret;exact⟨by rw [xD.out,HO.out];rfl,wN.out.trans wV.out (fun _ h=>h.elim)⟩
end Go.Proofs.YtdobimafhbfkhaaGreat
