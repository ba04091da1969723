/- The document's Right, May of a table, Fits (ratlineref01, ratlineref02), and what follows. -/
import Derived.Test.YtdobimafhbfkhaaGreatOY20
import Derived.Test.YtdobimafhbfkhaaGreatOY8
import Derived.Test.YtdobimafhbfkhaaGreatOY9
set_option maxHeartbeats 64000000
namespace Go.Proofs.YtdobimafhbfkhaaGreat
open Go.ChangeShapes Go.WideShapes Go.ChangeAt Go.RowKit
set_option maxRecDepth 100000
set_option linter.unusedSimpArgs false
def lj (c:List Bool):Bool:=cj c
theorem lp {w:World}{cv:Value}{c:List Bool}(h:fH w cv c):Calls Tryz.prog 38 #[.agg #[cv]] w fun e w'=>e = .returned (.bool (lj c))∧Kept (fun _=>False) w w':=by
 obtain⟨-,m1,ao,cap,rfl,-⟩:=h;have HK:=FH (show Kept (fun _=>False) w (w.alloc (.cells #[.slice ao c.length cap] bN))from(Kept.refl _ _).alloc _);by_cases h1:1≤c.length
 ·by_cases h2:c.length≤4
  ·have HM:=FH (show lj c=true by simp [lj,cj,h1,h2])
   have e1:((c.length:Int) ≥ 1):=by omega
   have e2:((c.length:Int)≤4):=by omega
   go_enter Tryz.func38,Tryz.ntmps38;go_wp2_with fail;go_ret;rw [HM.out];exact⟨rfl,HK.out⟩
  ·have HM:=FH (show lj c=false by simp [lj,cj,h2])
   have e1:((c.length:Int) ≥ 1):=by omega
   have e2:¬((c.length:Int)≤4):=by omega
   go_enter Tryz.func38,Tryz.ntmps38;go_wp2_with fail;go_ret;rw [HM.out];exact⟨rfl,HK.out⟩
 ·have HM:=FH (show lj c=false by simp [lj,cj,h1])
  have e1:¬((c.length:Int) ≥ 1):=by omega
  go_enter Tryz.func38,Tryz.ntmps38;go_wp2_with fail;go_ret;rw [HM.out];exact⟨rfl,HK.out⟩
theorem pS {w:World}{cv rv:Value}{c:List Bool}{r:List Val}(hc:fH w cv c)(hr:em w rv r):Calls Tryz.prog 27 #[.agg #[cv],rv] w fun e w'=>e = .returned (.bool (aX c r))∧Kept (fun _=>False) w w':=by
 have hk1:Kept (fun _=>False) w (w.alloc (.cells #[cv] bN)):=(Kept.refl _ _).alloc _;have hb1:(w.alloc (.cells #[cv] bN)).heap[w.heap.size]?=some (.cells #[cv] bN (0,0)):=ak w _;have HC:=FH (Rd.kept hc hk1 (fun _ _ h=>h));have HR:=FH (Rd.kept hr hk1 (fun _ _ h=>h));have wN:=FH hk1;have wL:=FH hb1;obtain⟨-,m1,co,ccap,rfl,-⟩:=hc;obtain⟨-,m2,ro,rcap,rfl,-⟩:=hr;clear hk1 hb1;go_enter Tryz.func27,Tryz.ntmps27;go_upto_region 1 with (fail)
 obtain⟨W,hW⟩:∃W,W=w.alloc (.cells #[.slice co c.length ccap] bN):=⟨_,rfl⟩;rw [←hW]at HC HR wN wL ⊢;generalize w.heap.size=bt at wL ⊢;clear hW;obtain⟨b0,bf⟩:=aC wL.out;have yM:=FH (lp HC.out);cases hm:cj c
 ·have HM:=FH (show lj c=false from hm)
  have HF:=FH (show aX c r=false by simp [aX,hm]);clear hm;go_wp2_with (go_at_call 38;refine yM.out.mono ?_;rw [HM.out];rintro e1 w1 ⟨rfl,hk2⟩;have wV:=FH hk2;clear hk2 b0 bf);go_ret;rw [HF.out];exact⟨rfl,wN.out.trans wV.out (fun _ h=>h.elim)⟩
 have HM:=FH (show lj c=true from hm);by_cases hl:r.length=c.length
 ·obtain⟨N,hN⟩:∃N,r.length=N:=⟨_,rfl⟩
  have HF:=FH (show aX c r=dX c r N by unfold aX;rw [hm,F5 hl,hN];rfl);have HN:=FH hN;have hcn:c.length=N:=by omega
  have Au:=FH hcn;rw [hcn]at HC yM wL b0 m1 ⊢;rw [hN]at HR m2 ⊢;unfold maxLen at m1 m2;clear hm hl hN hcn;go_upto_region 4 with (go_at_call 38;refine yM.out.mono ?_;rw [HM.out];rintro e1 w1 ⟨rfl,hk2⟩;have wV:=FH hk2;clear hk2 b0 bf;have hb1:=(wV.out.block _ (aw wL.out) (fun h=>h)).trans wL.out;obtain⟨b0,bf⟩:=aC hb1;have wX:=FH hb1;clear hb1)
  have ze:=FH (Rd.kept HC.out wV.out (fun _ _ h=>h));have A2:=FH (Rd.kept HR.out wV.out (fun _ _ h=>h));have xV:=FH (wN.out.trans wV.out (fun _ h=>h.elim));clear HC HR wL yM HM wN wV;go_wp2_with fail;clear b0 bf
  go_loopw [6] (fun idx wr=>∃j:Nat,idx = .int .i64 j∧j≤N∧dX c r j=true∧Kept (fun _=>False) w1 wr) (fun idx _=>N-(intOf idx).toNat)
  case atStart=>exact⟨0,rfl,Gp _,by simp [dX],Kept.refl _ _⟩
  case round =>
   obtain⟨j,rfl,hj,hno,hkr⟩:=hrel;by_cases hlt:j<N
   ·obtain⟨x,hx⟩:∃x,r[j]?=some x:=⟨r[j]'(by rw [HN.out];exact hlt),FP _⟩
    obtain⟨b,hb⟩:∃b,c[j]?=some b:=⟨c[j]'(by rw [Au.out];exact hlt),FP _⟩;have hrr:=Rd.kept A2.out hkr (fun _ _ h=>h);obtain⟨rg,rog,rfl⟩:=cT hrr hx HN.out;obtain⟨cg,cog,rfl⟩:=fq ze.out hb Au.out;obtain⟨y0,y1,y2⟩:=aE hrr hx;have zu:=FH hkr;have yJ:=FH (mA hx hb);have yw:=FH hno;have DB:=FH hb;have HX:=FH hx;have hib:(j:Int)<(N:Int):=by omega
    have xH:=FH (i7 x wr);clear hx hb hrr hno hkr;cases hv:am x
    ·have yF:=FH (show dX c r N=false from gP (show j+1≤N by omega) (by rw [yJ.out,hv];simp))
     have HV:=FH hv;clear hv;go_upto_region 8 with (go_at_call 26;refine xH.out.mono ?_;rw [HV.out];rintro e4 w4 ⟨rfl,hk5⟩;have xj:=FH ((xV.out.trans zu.out (fun _ h=>h.elim)).trans hk5 (fun _ h=>h.elim));clear hk5 y0 y1 y2)
     go_quiet (fail)
     go_wp2_with fail;go_ret;rw [HF.out,yF.out];exact⟨rfl,xj.out.trans ((Kept.refl (fun _=>False) w4).drewN _) (fun _ h=>h.elim)⟩
    ·have HV:=FH hv
     go_upto_region 8 with (go_at_call 26;refine xH.out.mono ?_;rw [HV.out];rintro e4 w4 ⟨rfl,hk5⟩;have xj:=FH (zu.out.trans hk5 (fun _ h=>h.elim));clear hk5 y0 y1 y2)
     obtain⟨b0,bf⟩:=aC ((xj.out.block _ (aw wX.out) (fun h=>h)).trans wX.out);have hcc:=dZ (Rd.kept ze.out xj.out (fun _ _ h=>h)) DB.out;obtain⟨y0,y1,y2⟩:=aE (Rd.kept A2.out xj.out (fun _ _ h=>h)) HX.out;by_cases hxt:x.t=b
     ·subst hxt
      have yF:=FH (show dX c r (j+1)=true by rw [yJ.out,hv,yw.out];simp);clear hv
      go_quiet (fail)
      go_wp2_with fail;go_roundw
      case rel=>exact⟨j+1,by go_num,by omega,yF.out,xj.out.trans ((Kept.refl (fun _=>False) w4).drewN _) (fun _ h=>h.elim)⟩
      case measure=>simp [intOf];omega
     ·obtain rfl:b = !x.t:=by cases b<;>cases h:x.t<;>simp_all
      have yF:=FH (show dX c r N=false from gP (show j+1≤N by omega) (by rw [yJ.out];simp));clear hxt hv
      go_quiet (fail)
      go_wp2_with fail;go_ret;rw [HF.out,yF.out];exact⟨rfl,(xV.out.trans xj.out (fun _ h=>h.elim)).trans ((Kept.refl (fun _=>False) w4).drewN _) (fun _ h=>h.elim)⟩
   ·obtain rfl:j=N:=by omega
    have yF:=FH hno;have DC:=FH (xV.out.trans hkr (fun _ h=>h.elim));clear hno hkr;go_wp2_with fail;go_ret;rw [HF.out,yF.out];exact⟨rfl,DC.out⟩
 ·have HF:=FH (show aX c r=false by unfold aX;rw [hm,FY hl];rfl)
  have hl':¬((r.length:Int)=(c.length:Int)):=by omega
  clear hm hl;go_wp2_with (go_at_call 38;refine yM.out.mono ?_;rw [HM.out];rintro e1 w1 ⟨rfl,hk2⟩;have wV:=FH hk2;clear hk2 b0 bf;obtain⟨b0,bf⟩:=aC ((wV.out.block _ (aw wL.out) (fun h=>h)).trans wL.out));go_ret;rw [HF.out];exact⟨rfl,wN.out.trans wV.out (fun _ h=>h.elim)⟩
theorem fj {w:World}{cv:Value}{c:List Bool}(i:Int)(v:Val)(hc:fH w cv c) :
  Calls Tryz.prog 65 #[.agg #[cv],.int .i64 i,v.v] w fun e w'=>e = .returned (.bool (cC c i v))∧Kept (fun _=>False) w w':=by
 obtain⟨W1,hW1,hk1,hb1,hb2⟩:=pw w #[cv] #[.bool v.t,.int .i64 v.n,.string v.s] bN tV;have HC:=FH (Rd.kept hc hk1 (fun _ _ h=>h));obtain⟨_,m1,ao,cap,rfl,_⟩:=hc;have wM:=FH hW1;have wN:=FH hk1;have wL:=FH hb1;have wX:=FH hb2;have HR:=FH (i7 v W1);obtain⟨rr,hrr⟩:∃rr,rr=cC c i v:=⟨_,rfl⟩;rw [←hrr];have xD:=FH hrr;obtain⟨rv,hrv⟩:∃rv,am v=rv:=⟨_,rfl⟩;rw [hrv]at HR;have Aw:=FH hrv;clear hW1 hk1 hb1 hb2 hrr hrv;unfold maxLen at m1;go_enter Tryz.func65,Tryz.ntmps65;go_upto_region 1 with fail
 rw [←wM.out];clear wM;generalize w.heap.size+1=b2 at *;generalize w.heap.size=b1 at *;obtain⟨x0,x1,x2,xf⟩:=aQ wX.out;go_upto_region 2 with (go_at_call 26;refine HR.out.mono ?_;rintro e1 w1 ⟨rfl,hk1⟩;have xY:=FH hk1;have wV:=FH (wN.out.trans hk1 (fun _ h=>h.elim));clear hk1 HR x0 x1 x2 xf)
 obtain⟨x0,x1,x2,xf⟩:=aQ (aA xY.out wX.out);obtain⟨t0,tf⟩:=aC (aA xY.out wL.out);have ze:=FH (Rd.kept HC.out xY.out.drew (fun _ _ h=>h));by_cases h1:0≤i
 ·by_cases h2:i<(c.length:Int)
  ·obtain⟨k,rfl⟩:∃k:Nat,i=(k:Int):=⟨i.toNat,by omega⟩
   obtain⟨y,hy⟩:∃y,c[k]?=some y:=⟨c[k]'(by omega),FP _⟩;obtain⟨cg,cog,rfl⟩:=fq ze.out hy rfl;have hcc:=dZ ze.out hy;have hg:c.getD ((k:Int)).toNat false=y:=by rw [FW,F6,hy];rfl
   have HV:=FH (show cC c (k:Int) v=(rv&&decide (v.t=y)) by unfold cC;rw [hg,Aw.out,F5 h1,F5 h2];cases rv<;>cases decide (v.t=y)<;>rfl);generalize hN:c.length=N at *;clear hy hg hN HC ze;cases rv
   ·refine aH [rq 0 999,rq 1 999,rq 2 999,rq 3 999,rq 4 999,rq 5 999,rq 6 999,rq 7 999,rq 8 999,rq 9 999,rq 10 999,rq 11 999,rq 12 999,rq 13 999,rq 14 999,rq 15 999,rq 16 999,rq 17 999,rq 18 999,rq 19 999,rq 20 999,rq 21 999,rq 22 999] ?_
    (iterate 23 (first|(refine ax rfl rfl ?_;simp only [Act.put,FI,FJ,FK,FL,FM,FN])|((first|refine ae rfl rfl (fun K hK=>?_)|refine ar rfl rfl fun K hK=>?_);go_simp;apply hK;clear hK K)));refine ag ?_
    go_wp2_with fail;go_ret;exact⟨by rw [xD.out,HV.out];rfl,wV.out.drew⟩
   ·by_cases h3:v.t=y
    ·subst h3
     refine aH [rq 0 999,rq 1 999,rq 2 999,rq 3 999,rq 4 999,rq 5 999,rq 6 999,rq 7 999,rq 8 999,rq 9 999,rq 10 999,rq 11 999,rq 12 999,rq 13 999,rq 14 999,rq 15 999,rq 16 999,rq 17 999,rq 18 999,rq 19 999,rq 20 999,rq 21 999,rq 22 999] ?_;(iterate 23 (first|(refine ax rfl rfl ?_;simp only [Act.put,FI,FJ,FK,FL,FM,FN])|((first|refine ae rfl rfl (fun K hK=>?_)|refine ar rfl rfl fun K hK=>?_);go_simp;apply hK;clear hK K)));refine ag ?_;go_wp2_with fail;go_ret;exact⟨by rw [xD.out,HV.out];simp,wV.out.drew⟩
    ·obtain rfl:y = !v.t:=by cases y<;>cases h:v.t<;>simp_all
     refine aH [rq 0 999,rq 1 999,rq 2 999,rq 3 999,rq 4 999,rq 5 999,rq 6 999,rq 7 999,rq 8 999,rq 9 999,rq 10 999,rq 11 999,rq 12 999,rq 13 999,rq 14 999,rq 15 999,rq 16 999,rq 17 999,rq 18 999,rq 19 999,rq 20 999,rq 21 999,rq 22 999] ?_;(iterate 23 (first|(refine ax rfl rfl ?_;simp only [Act.put,FI,FJ,FK,FL,FM,FN])|((first|refine ae rfl rfl (fun K hK=>?_)|refine ar rfl rfl fun K hK=>?_);go_simp;apply hK;clear hK K)));refine ag ?_;go_wp2_with fail;go_ret;exact⟨by rw [xD.out,HV.out];simp,wV.out.drew⟩
  ·have HV:=FH (show cC c i v=false by unfold cC;rw [FY h2];simp)
   clear ze;refine aH [rq 0 999,rq 1 999,rq 2 999,rq 3 999,rq 4 999,rq 5 999,rq 6 999,rq 7 999,rq 8 999,rq 9 999,rq 10 999,rq 11 999,rq 12 999,rq 13 999,rq 14 999,rq 15 999,rq 16 999,rq 17 999,rq 18 999,rq 19 999,rq 20 999,rq 21 999,rq 22 999] ?_;iterate 23 (first|(refine ax rfl rfl ?_;simp only [Act.put,FI,FJ,FK,FL,FM,FN])|((first|refine ae rfl rfl (fun K hK=>?_)|refine ar rfl rfl fun K hK=>?_);go_simp;apply hK;clear hK K))
   refine ag ?_;go_wp2_with fail;go_ret;exact⟨by rw [xD.out,HV.out];rfl,wV.out.drew⟩
 ·have HV:=FH (show cC c i v=false by unfold cC;rw [FY h1];simp)
  clear ze;refine aH [rq 0 999,rq 1 999,rq 2 999,rq 3 999,rq 4 999,rq 5 999,rq 6 999,rq 7 999,rq 8 999,rq 9 999,rq 10 999,rq 11 999,rq 12 999,rq 13 999,rq 14 999,rq 15 999,rq 16 999,rq 17 999,rq 18 999,rq 19 999,rq 20 999,rq 21 999,rq 22 999] ?_;iterate 23 (first|(refine ax rfl rfl ?_;simp only [Act.put,FI,FJ,FK,FL,FM,FN])|((first|refine ae rfl rfl (fun K hK=>?_)|refine ar rfl rfl fun K hK=>?_);go_simp;apply hK;clear hK K))
  refine ag ?_;go_wp2_with fail;go_ret;exact⟨by rw [xD.out,HV.out];rfl,wV.out.drew⟩
def gX (es:List PredE)(j:Nat):Nat:=1+((es.take j).flatMap (fun e=>e.p.nodes)).length
theorem qN {es:List PredE}{j:Nat}{e:PredE}(he:es[j]?=some e):gX es (j+1)=gX es j+e.p.nodes.length:=by
 unfold gX;rw [F3,he,FT,FR];simp;omega
theorem tH (es:List PredE)(j:Nat):gX es j≤1+(es.flatMap (fun e=>e.p.nodes)).length:=by
 unfold gX;have h2:es.flatMap (fun e=>e.p.nodes)=(es.take j).flatMap (fun e=>e.p.nodes)++(es.drop j).flatMap (fun e=>e.p.nodes):=by rw [←FT,Gj]
 rw [h2,FR];omega
theorem lI : ∀(p:PredT) (x:PredE) (w:World),x.p=p→p.nodes.length≤1000000→PredsRd w (.slice x.la x.ln x.lc) x.subs →
  Calls Tryz.prog 30 #[.agg x.cells.toArray] w fun e w'=>e = .returned (.int .i64 (p.nodes.length:Int))∧Kept (fun _=>False) w w':=by
 refine PredT.ind fun op col v w0 pl ih x w hx hn hat=>?_;have hl:x.subs=pl:=by unfold PredE.p at hx;cases hx;rfl
 obtain⟨W1,hW1,hk1,hb1⟩:∃W,W=w.alloc (.cells x.cells.toArray tPr)∧Kept (fun _=>False) w W∧W.heap[w.heap.size]?=some (.cells x.cells.toArray tPr (0,0)):=⟨_,rfl,(Kept.refl _ _).alloc _,ak _ _⟩;have hat1:=hat.kept hk1;obtain⟨es,hrd,hsub,hes⟩:∃es:List PredE,Rd W1 9 (.slice x.la x.ln x.lc) es.length (es.flatMap PredE.cells)∧x.subs=es.map PredE.p∧∀e∈es,PredsRd W1 (.slice e.la e.ln e.lc) e.subs:=by
  generalize x.subs=xs at hat1;cases hat1 with
  | mk _ es he hes=>exact⟨es,he,rfl,hes⟩
 have hne:(PredT.mk op col v w0 pl).nodes.length=1+(es.flatMap (fun e=>e.p.nodes)).length:=by rw [iz,←hl,hsub,List.flatMap_map,List.length_cons];omega
 have zt:=FH hne;rw [hne]at hn;obtain⟨_,_,ra,rc,hav,_⟩:=id hrd;have hln:x.ln=es.length:=(Value.slice.inj hav).2.1;have hml:=hrd.2.1;unfold maxLen at hml;obtain⟨N,hN⟩:∃N,es.length=N:=⟨_,rfl⟩;rw [hln,hN]at hrd;rw [hN]at hml;have yZ:=FH (show ∀(j:Nat) (e:PredE) (W:World),es[j]?=some e→Kept (fun _=>False) W1 W→Calls Tryz.prog 30 #[.agg e.cells.toArray] W fun r w'=>r = .returned (.int .i64 (e.p.nodes.length:Int))∧Kept (fun _=>False) W w' from
  fun j e W he k=>ih e.p (by rw [←hl,hsub];exact List.mem_map_of_mem (FQ he)) e W rfl (by
   have h1:e.p.nodes.length≤(es.flatMap (fun e=>e.p.nodes)).length:=by
    obtain⟨a,b,rfl⟩:=List.append_of_mem (FQ he);simp;omega
   omega) ((hes e (FQ he)).kept k))
 have wQ:=FH hrd;have HN:=FH hN;have yg:=FH (show x.ln=N by rw [hln,hN]);have wM:=FH hW1;have wN:=FH hk1;have wL:=FH hb1;obtain⟨rr,hrr⟩:∃rr:Int,rr=((PredT.mk op col v w0 pl).nodes.length:Int):=⟨_,rfl⟩;rw [←hrr];have xD:=FH hrr;clear ih hx hat hat1 hl hsub hes hrd hav hln hne hN hW1 hk1 hb1 hrr;go_enter Tryz.func30,Tryz.ntmps30;go_upto_region 1 with fail
 rw [←wM.out];clear wM;generalize w.heap.size=bx at *;obtain⟨la,hla⟩:∃la,la=x.la:=⟨_,rfl⟩;obtain⟨lc,hlc⟩:∃lc,lc=x.lc:=⟨_,rfl⟩;have HB:=FH (show ∀W,Kept (fun _=>False) W1 W→W.cell? ⟨bx,8,none⟩=some (.slice la N lc)from fun W k=>by
  obtain⟨_,_,_,_,_,_,_,_,h8⟩:=cu (aA k wL.out);rw [yg.out,←hla,←hlc]at h8;exact h8)
 rw [←hla,←hlc]at wQ;clear hla hlc;go_wp2_with fail
 go_loopw [3,4] (fun u i wr=>∃j:Nat,i = .int .i64 j∧u = .int .i64 (gX es j:Int)∧j≤N∧Kept (fun _=>False) W1 wr) (fun _ i _=>N-(intOf i).toNat)
 case atStart=>exact⟨0,rfl,rfl,by omega,Kept.refl _ _⟩
 case round =>
  obtain⟨j,rfl,rfl,hj,hk⟩:=hrel;have HK:=FH hk;have x8:=HB.out wr hk;clear hk;by_cases hlt:j<N
  ·have hii:(j:Int)<(N:Int):=by omega
   obtain⟨e,he⟩:∃e,es[j]?=some e:=⟨es[j]'(by rw [HN.out];exact hlt),FP _⟩;obtain⟨g,og,rfl,hrng⟩:=bi PredE.len (Rd.kept wQ.out HK.out (fun _ _ h=>h)) he HN.out;have HL:=FH (dh hrng);have HC:=FH (yZ.out j e wr he HK.out);have xm:=FH (qN he);have hb:=tH es (j+1);rw [xm.out]at hb;clear he hrng;generalize gX es j=a at *;generalize e.p.nodes.length=b at *;have hw:IntKind.i64.wrap ((a:Int)+(b:Int))=(a:Int)+(b:Int):=Gr _ (by omega);go_wp2_with (first|(refine aV rfl _ _ rfl _ _ rfl _ HL.out ?_)|(go_at_call 30;refine HC.out.mono ?_;rintro e4 w4 ⟨rfl,hk4⟩;have xO:=FH (HK.out.trans hk4 (fun _ h=>h.elim));clear hk4 HC HL));go_roundw
   case rel=>exact⟨j+1,by go_num,by rw [xm.out];go_num,by omega,xO.out⟩
   case measure=>simp [intOf];omega
  ·have hii:¬((j:Int)<(N:Int)):=by omega
   have HT:=FH (show gX es j=1+(es.flatMap (fun e=>e.p.nodes)).length by unfold gX;rw [FS (by rw [HN.out];omega)]);go_wp2_with fail;go_ret;exact⟨by rw [xD.out,zt.out,←HT.out];rfl,wN.out.trans HK.out (fun _ h=>h.elim)⟩
end Go.Proofs.YtdobimafhbfkhaaGreat
