/- Whether statements are few and small (few, flat, small), and what follows. -/
import Derived.Test.YtdobimafhbfkhaaGreatOY37
import Derived.Test.YtdobimafhbfkhaaGreatOY38
import Derived.OpenShut
set_option maxHeartbeats 64000000
namespace Go.Proofs.YtdobimafhbfkhaaGreat
open Go.ChangeShapes Go.WideShapes Go.ChangeAt Go.RowKit
set_option maxRecDepth 100000
set_option linter.unusedSimpArgs false
def FlatP (w:World)(p:PredT)(e:Ending)(w':World):Prop:=∃b:Bool,e = .returned (.bool b)∧(b=true→p.nodes.length≤60)∧Kept (fun _=>False) w w'
theorem flat_ok : ∀(p:PredT) (x:PredE) (w:World) (d:Nat),x.p=p→d≤21→PredsRd w (.slice x.la x.ln x.lc) x.subs →
  Calls Tryz.prog 24 #[.agg x.cells.toArray,.int .i64 d] w (FlatP w p):=by
 refine PredT.ind fun op col v w0 pl ih x w d hx hd hat=>?_;have hl:x.subs=pl:=by unfold PredE.p at hx;cases hx;rfl
 obtain⟨W1,hW1,hk1,hb1⟩:∃W,W=w.alloc (.cells x.cells.toArray tPr)∧Kept (fun _=>False) w W∧W.heap[w.heap.size]?=some (.cells x.cells.toArray tPr (0,0)):=⟨_,rfl,(Kept.refl _ _).alloc _,ak _ _⟩;have hat1:=hat.kept hk1;obtain⟨es,hrd,hsub,hes⟩:∃es:List PredE,Rd W1 9 (.slice x.la x.ln x.lc) es.length (es.flatMap PredE.cells)∧x.subs=es.map PredE.p∧∀e∈es,PredsRd W1 (.slice e.la e.ln e.lc) e.subs:=by
  generalize x.subs=xs at hat1;cases hat1 with
  | mk _ es he hes=>exact⟨es,he,rfl,hes⟩
 have hne:(PredT.mk op col v w0 pl).nodes.length=1+(es.flatMap (fun e=>e.p.nodes)).length:=by rw [iz,←hl,hsub,List.flatMap_map,List.length_cons];omega
 obtain⟨_,_,ra,rc,hav,_⟩:=id hrd;have hln:x.ln=es.length:=(Value.slice.inj hav).2.1;have hml:=hrd.2.1;unfold maxLen at hml;obtain⟨N,hN⟩:∃N,es.length=N:=⟨_,rfl⟩;rw [hln,hN]at hrd;rw [hN]at hml;have yZ:=FH (show d≤20→∀(j:Nat) (e:PredE) (W:World),es[j]?=some e→Kept (fun _=>False) W1 W→Calls Tryz.prog 24 #[.agg e.cells.toArray,.int .i64 (d+1:Nat)] W (FlatP W e.p)from
  fun hd20 j e W he k=>ih e.p (by rw [←hl,hsub];exact List.mem_map_of_mem (FQ he)) e W (d+1) rfl (by omega) ((hes e (FQ he)).kept k))
 have xl:=FH (show(PredT.mk op col v w0 pl).nodes.length≤1000000→∀W,Kept (fun _=>False) W1 W→Calls Tryz.prog 30 #[.agg x.cells.toArray] W fun e w'=>e = .returned (.int .i64 ((PredT.mk op col v w0 pl).nodes.length:Int))∧Kept (fun _=>False) W w' from fun hle W k=>lI _ x W hx hle ((hat.kept hk1).kept k));have zt:=FH hne;have wQ:=FH hrd;have HN:=FH hN;have yg:=FH (show x.ln=N by rw [hln,hN]);have wM:=FH hW1;have wN:=FH hk1;have wL:=FH hb1;clear ih hx hat hat1 hl hsub hes hrd hav hln hne hN hW1 hk1 hb1;by_cases hd20:d≤20
 ·have C9:=FH (yZ.out hd20)
  have hdi:¬((20:Int)<(d:Int)):=by omega
  by_cases hN20:N≤20
  ·have hNi:¬((20:Int)<(N:Int)):=by omega
   have hw0:IntKind.i64.wrap ((d:Int)+1)=((d+1:Nat):Int):=by rw [Gr _ (by omega)];omega
   go_enter Tryz.func24,Tryz.ntmps24;go_upto_region 1 with fail
   rw [←wM.out];clear wM yZ;generalize w.heap.size=bx at *;have zg:=FH (show ∀W,Kept (fun _=>False) W1 W→(loadVar tPr ⟨bx,0,none⟩).run Tryz.prog W = .ok (.agg x.cells.toArray) W from fun W k=>dh (aj (aA k wL.out)));obtain⟨la,hla⟩:∃la,la=x.la:=⟨_,rfl⟩;obtain⟨lc,hlc⟩:∃lc,lc=x.lc:=⟨_,rfl⟩;have HB:=FH (show ∀W,Kept (fun _=>False) W1 W→W.cell? ⟨bx,8,none⟩=some (.slice la N lc)from fun W k=>by
    obtain⟨_,_,_,_,_,_,_,_,h8⟩:=cu (aA k wL.out);rw [yg.out,←hla,←hlc]at h8;exact h8)
   rw [←hla,←hlc]at wQ;clear hla hlc;have x8:=HB.out W1 (Kept.refl _ _);go_wp2_with fail;clear x8
   go_loopw [5] (fun i wr=>∃j:Nat,i = .int .i64 j∧j≤N∧((es.take j).flatMap (fun e=>e.p.nodes)).length≤60*j∧Kept (fun _=>False) W1 wr) (fun i _=>N-(intOf i).toNat)
   case atStart=>exact⟨0,rfl,by omega,by simp,Kept.refl _ _⟩
   case round =>
    obtain⟨j,rfl,hj,hsum,hk⟩:=hrel;have HK:=FH hk;have Da:=FH hsum;have x8:=HB.out wr hk;clear hk hsum;by_cases hlt:j<N
    ·have hii:(j:Int)<(N:Int):=by omega
     obtain⟨e,he⟩:∃e,es[j]?=some e:=⟨es[j]'(by rw [HN.out];exact hlt),FP _⟩;obtain⟨g,og,rfl,hrng⟩:=bi PredE.len (Rd.kept wQ.out HK.out (fun _ _ h=>h)) he HN.out;have HL:=FH (dh hrng);have HC:=FH (C9.out j e wr he HK.out);have xm:=FH (show((es.take (j+1)).flatMap (fun e=>e.p.nodes)).length=((es.take j).flatMap (fun e=>e.p.nodes)).length+e.p.nodes.length by rw [F3,he,FT,FR];simp);clear he hrng;go_upto_region 7 with (first|(refine aV rfl _ _ rfl _ _ rfl _ HL.out ?_)|(go_at_call 24;refine HC.out.mono ?_;rintro e4 w4 ⟨b4,rfl,hb4,hk4⟩;have xO:=FH (HK.out.trans hk4 (fun _ h=>h.elim));have Db:=FH hb4;clear hk4 hb4 HC HL x8))
     cases b4
     ·go_wp2_with fail
      go_ret;exact⟨false,rfl,fun h=>(by cases h),wN.out.trans xO.out (fun _ h=>h.elim)⟩
     ·have hw3:IntKind.i64.wrap ((j:Int)+1)=(j:Int)+1:=Gr _ (by omega)
      go_wp2_with fail;go_roundw
      case rel=>exact⟨j+1,by go_num,by omega,by rw [xm.out];have h1:=Db.out rfl;have h2:=Da.out;omega,xO.out⟩
      case measure=>simp [intOf];omega
    ·have hii:¬((j:Int)<(N:Int)):=by omega
     have hnn:(PredT.mk op col v w0 pl).nodes.length≤1000000:=by
      have h1:=Da.out;rw [FS (by rw [HN.out];omega)]at h1;rw [zt.out];omega
     have HS:=FH (xl.out hnn wr HK.out);have HL:=FH (zg.out wr HK.out);clear hnn;obtain⟨nl,hnl⟩:∃nl,(PredT.mk op col v w0 pl).nodes.length=nl:=⟨_,rfl⟩;rw [hnl]at HS;have zZ:=FH hnl;clear hnl;go_wp2_with (first|(refine aV rfl _ _ rfl _ _ rfl _ HL.out ?_)|(go_at_call 30;refine HS.out.mono ?_;rintro e4 w4 ⟨rfl,hk4⟩;have xO:=FH (HK.out.trans hk4 (fun _ h=>h.elim));clear hk4 HS HL x8));go_ret;exact⟨_,rfl,fun h=>(by rw [zZ.out];exact Int.ofNat_le.1 (show(nl:Int)≤((60:Nat):Int) by simpa using h)),wN.out.trans xO.out (fun _ h=>h.elim)⟩
  ·have hNi:(20:Int)<(N:Int):=by omega
   go_enter Tryz.func24,Tryz.ntmps24;go_upto_region 1 with fail
   rw [←wM.out];clear wM yZ C9;generalize w.heap.size=bx at *;obtain⟨_,_,_,_,_,_,_,_,x8⟩:=cu wL.out;rw [yg.out]at x8;go_wp2_with fail;go_ret;exact⟨false,rfl,fun h=>(by cases h),wN.out⟩
 ·have hdi:(20:Int)<(d:Int):=by omega
  go_enter Tryz.func24,Tryz.ntmps24;go_upto_region 1 with fail
  rw [←wM.out];clear wM yZ;go_wp2_with fail;go_ret;exact⟨false,rfl,fun h=>(by cases h),wN.out⟩
def FewS (s:StmM):Prop:=s.row.length≤20∧s.sets.length≤20∧s.pred.nodes.length≤60
def FewP (w:World)(s:StmM)(e:Ending)(w':World):Prop:=∃b:Bool,e = .returned (.bool b)∧(b=true→FewS s)∧Kept (fun _=>False) w w'
theorem few_ok {w:World}{e:StmE}{s:StmM}(hs:StmOk (aB w) e s):Calls Tryz.prog 10 #[.agg e.cells.toArray] w (FewP w s):=by
 have h1:=(Sat.start w).alloc e.cells.toArray tSt;obtain⟨W1,hW1⟩:∃W,W=w.alloc (.cells e.cells.toArray tSt):=⟨_,rfl⟩;rw [←hW1]at h1;have wM:=FH hW1;have wG:=FH h1;have hrn:e.row.rn=s.row.length:=by
  obtain⟨_,_,ao,c,h,_⟩:=hs.row.1;exact(Value.slice.inj (show Value.slice e.row.ro e.row.rn e.row.rc = .slice ao s.row.length c from h)).2.1
 have hsn:e.sets.rn=s.sets.length:=by
  obtain⟨_,_,ao,c,h,_⟩:=hs.sets.1;exact(Value.slice.inj (show Value.slice e.sets.ro e.sets.rn e.sets.rc = .slice ao s.sets.length c from h)).2.1
 have wN:=FH (h1.drop.end_ (PH.le.refl _));have Dx:=FH (flat_ok s.pred e.pe W1 0 hs.pred (by omega) (hs.subs.rd h1));obtain⟨x0,x2,x3,x4,x5,x6,x7,x17,x18,x19⟩:=aO (h1.blk 0 rfl);obtain⟨z0,z1,z2,z3,z4,z5,z6,z7,z8⟩:=bR (h1.blk 0 rfl);dsimp only [RowT.v]at x6 x7;rw [hrn]at x6;rw [hsn]at x7;obtain⟨R,hR⟩:∃R,s.row.length=R:=⟨_,rfl⟩;obtain⟨S,hS⟩:∃S,s.sets.length=S:=⟨_,rfl⟩;rw [hR]at x6;rw [hS]at x7;have HR:=FH hR;have Fl:=FH hS;clear hs h1 hW1 hrn hsn hR hS;by_cases hr:R≤20
 ·have hri:(R:Int)≤20:=by omega
  by_cases hss:S≤20
  ·have hsi:(S:Int)≤20:=by omega
   go_enter Tryz.func10,Tryz.ntmps10;go_upto_region 1 with fail
   rw [←wM.out];clear wM;generalize w.heap.size=bs at *;go_wp2_with (go_at_call 24;refine Dx.out.mono ?_;rintro e4 w4 ⟨b4,rfl,hb4,hk4⟩;have xO:=FH (wN.out.trans hk4 (fun _ h=>h.elim));have Db:=FH hb4;clear hk4 hb4 Dx);go_ret;exact⟨b4,rfl,fun h=>⟨by rw [HR.out];exact hr,by rw [Fl.out];exact hss,Db.out h⟩,xO.out⟩
  ·have hsi:¬((S:Int)≤20):=by omega
   go_enter Tryz.func10,Tryz.ntmps10;go_upto_region 1 with fail
   rw [←wM.out];clear wM;generalize w.heap.size=bs at *;go_wp2_with fail;go_ret;exact⟨false,rfl,fun h=>(by cases h),wN.out⟩
 ·have hri:¬((R:Int)≤20):=by omega
  go_enter Tryz.func10,Tryz.ntmps10;go_upto_region 1 with fail
  rw [←wM.out];clear wM;generalize w.heap.size=bs at *;go_wp2_with fail;go_ret;exact⟨false,rfl,fun h=>(by cases h),wN.out⟩
structure TxnE where
 lev:Int
 sa:Option Addr
 sn:Nat
 sc:Nat
def TxnE.cells (t:TxnE):List Value:=[.int .i64 t.lev,.slice t.sa t.sn t.sc]
theorem TxnE.len (t:TxnE):t.cells.length=2:=rfl
def TxnL (D:PH)(v:Value)(ts:List (List StmM)):Prop:=∃es:List TxnE,All2 (fun e ss=>StmL D (.slice e.sa e.sn e.sc) ss) es ts∧RdP D 2 v es.length (es.flatMap TxnE.cells)
theorem StmL.mono {D D':PH}(le:PH.le D D'){v:Value}{ss:List StmM}(h:StmL D v ss):StmL D' v ss:=by
 obtain⟨es,h1,h2⟩:=h;exact⟨es,h1.imp (fun _ _ h=>h.mono le),h2.mono le⟩
theorem TxnL.mono {D D':PH}(le:PH.le D D'){v:Value}{ts:List (List StmM)}(h:TxnL D v ts):TxnL D' v ts:=by
 obtain⟨es,h1,h2⟩:=h;exact⟨es,h1.imp (fun _ _ h=>h.mono le),h2.mono le⟩
theorem StmL.len {D:PH}{a:Option Addr}{n c:Nat}{ss:List StmM}(h:StmL D (.slice a n c) ss):n=ss.length:=by
 obtain⟨es,h1,h2⟩:=h;obtain⟨_,_,ao,c,h3,_⟩:=h2;rw [(Value.slice.inj h3).2.1,h1.len]
theorem TxnL.len {D:PH}{a:Option Addr}{n c:Nat}{ts:List (List StmM)}(h:TxnL D (.slice a n c) ts):n=ts.length:=by
 obtain⟨es,h1,h2⟩:=h;obtain⟨_,_,ao,c,h3,_⟩:=h2;rw [(Value.slice.inj h3).2.1,h1.len]
def i8 (ts:List (List StmM)):Nat:=(ts.map List.length).sum
theorem mH (ts:List (List StmM))(ss:List StmM):i8 (ts ++ [ss])=i8 ts+ss.length:=by unfold i8;simp
def SmallT (ts:List (List StmM)):Prop:=ts.length≤12∧i8 ts≤100∧∀ss∈ts,∀s∈ss,FewS s
def SmallP (w:World)(ts:List (List StmM))(e:Ending)(w':World):Prop:=∃b:Bool,e = .returned (.bool b)∧(b=true→SmallT ts)∧Kept (fun _=>False) w w'
theorem uM {w:World}{v:Value}{ts:List (List StmM)}(ht:TxnL (aB w) v ts):Calls Tryz.prog 13 #[v] w (SmallP w ts):=by
 obtain⟨va,vn,vc,rfl⟩:∃a n c,v = .slice a n c:=by obtain⟨es,_,h2⟩:=ht;obtain⟨a,c,h3⟩:=h2.shape;exact⟨a,_,c,h3⟩
 have hn:=ht.len;subst hn;obtain⟨es,hes,hrd⟩:=ht;have hel:=hes.len;rw [hel]at hrd;obtain⟨N,hN⟩:∃N,ts.length=N:=⟨_,rfl⟩;rw [hN]at hrd hel ⊢;have HN:=FH hN;have yX:=FH hes;have zq:=FH hel;have wQ:=FH (show ∀W,Kept (fun _=>False) w W→Rd W 2 (.slice va N vc) N (es.flatMap TxnE.cells)from fun W k=>hrd.rd ((Sat.start w).kept k));clear hN hes hel hrd;by_cases h12:N≤12
 ·have hi12:¬((12:Int)<(N:Int)):=by omega
  go_enter Tryz.func13,Tryz.ntmps13;go_wp2_with fail
  go_loopw [3,4] (fun cv iv wr=>∃(i:Nat),cv = .int .i64 (i8 (ts.take i):Nat)∧iv = .int .i64 i∧i≤N∧i8 (ts.take i)≤100∧(∀ss∈ts.take i,∀s∈ss,FewS s)∧Kept (fun _=>False) w wr) (fun _ iv _=>N-(intOf iv).toNat)
  case atStart=>exact⟨0,rfl,rfl,Gp _,Gp _,(fun ss h=>by cases h),Kept.refl _ _⟩
  case round =>
   obtain⟨i,rfl,rfl,hi,hcnt,hfew,hk⟩:=hrel;have Cd:=FH hcnt;have Ce:=FH hfew;have HK:=FH hk;clear hcnt hfew hk;by_cases hlt:i<N
   ·have hii:(i:Int)<(N:Int):=by omega
    obtain⟨t,ht⟩:∃t,es[i]?=some t:=⟨es[i]'(by rw [zq.out];exact hlt),FP _⟩;obtain⟨ss,hss,hst⟩:=yX.out.get ht;have hnl:=hst.len;obtain⟨xs,hxs,hxrd⟩:=hst;have hxl:=hxs.len;have ym:=FH (show ts.take (i+1)=ts.take i ++ [ss] by rw [F3,hss];rfl);obtain⟨M,hM⟩:∃M,ss.length=M:=⟨_,rfl⟩;rw [hM]at hnl hxl;rw [hxl,hnl]at hxrd;have HM:=FH hM;have xU:=FH hxl;have FG:=FH hxs;have Ec:=FH (show ∀W,Kept (fun _=>False) w W→Rd W 20 (.slice t.sa M t.sc) M (xs.flatMap StmE.cells)from fun W k=>hxrd.rd ((Sat.start w).kept k));have Ed:=FH (show ∀(k:Nat) (x:StmE),xs[k]?=some x→∃s,ss[k]?=some s∧StmOk (aB w) x s from fun k x hx=>hxs.get hx);have Bb:=FH (show ∃g og,va=some ⟨g,og,none⟩∧∀W,Kept (fun _=>False) w W→W.cell? ⟨g,og+i*2+1,none⟩=some (.slice t.sa M t.sc)from by
     obtain⟨g,og,hg,_⟩:=bi TxnE.len (wQ.out w (Kept.refl _ _)) ht zq.out;refine⟨g,og,hg,fun W k=>?_⟩;obtain⟨g2,og2,hg2,hr⟩:=bi TxnE.len (wQ.out W k) ht zq.out;rw [hg]at hg2;cases hg2;have:=hr 1 _ rfl;rw [hnl]at this;exact this)
    clear ht hss hxs hxrd hM hnl hxl;obtain⟨g,og,rfl,htc⟩:=Bb.out;have Ee:=FH htc;have x1:=htc wr HK.out;clear htc Bb;generalize hc0:i8 (ts.take i)=C0 at *;have A3:=FH hc0;clear hc0;go_wp2_with fail;clear x1
    go_loopw [3,5] (fun cv kv wq=>∃(k:Nat),cv = .int .i64 ((C0+k:Nat):Int)∧kv = .int .i64 k∧k≤M∧C0+k≤100∧(∀s∈ss.take k,FewS s)∧Kept (fun _=>False) w wq) (fun _ kv _=>M-(intOf kv).toNat)
    case atStart=>exact⟨0,rfl,rfl,Gp _,Cd.out,(fun s h=>by cases h),HK.out⟩
    case round =>
     obtain⟨k,rfl,rfl,hk,hcnt,hfew,hkk⟩:=hrel;have Cf:=FH hcnt;have Cg:=FH hfew;have wV:=FH hkk;have x1:=Ee.out wr hkk;clear hcnt hfew hkk;by_cases hlt2:k<M
     ·have hki:(k:Int)<(M:Int):=by omega
      have hkb:k≤100:=by have:=Cf.out;omega
      have hkb2:(k:Int)≤100:=by omega
      obtain⟨x,hx⟩:∃x,xs[k]?=some x:=⟨xs[k]'(by rw [xU.out];exact hlt2),FP _⟩;obtain⟨s,hs,hok⟩:=Ed.out k x hx;obtain⟨sg,so,hsa,hrg⟩:=bi StmE.len (Ec.out wr wV.out) hx xU.out;have yH:=FH (fp hrg);have Ef:=FH (show ss.take (k+1)=ss.take k ++ [s] by rw [F3,hs];rfl);have Dc:=FH (few_ok (hok.mono (show PH.le (aB w) (aB wr)from((Sat.start w).kept wV.out).pool)));rw [hsa]at x1;have hw1:IntKind.i64.wrap (((C0+k:Nat):Int)+1)=((C0+(k+1):Nat):Int):=by rw [Gr _ (by have:=Cf.out;omega)];omega
      clear hx hs hok hrg;generalize ((C0+k:Nat):Int)=ci at *;obtain⟨cn,hcn⟩:∃cn:Int,((C0+(k+1):Nat):Int)=cn:=⟨_,rfl⟩;rw [hcn]at hw1;have Au:=FH hcn;clear hcn;go_upto_region 12 with (first|(refine aV rfl _ _ rfl _ _ rfl _ yH.out ?_)|(go_at_call 10;refine Dc.out.mono ?_;rintro e4 w4 ⟨b4,rfl,hb4,hk4⟩;have xO:=FH (wV.out.trans hk4 (fun _ h=>h.elim));have Db:=FH hb4;clear hk4 hb4 Dc yH x1))
      cases b4
      ·go_wp2_with fail
       go_ret;exact⟨false,rfl,fun h=>(by cases h),xO.out⟩
      ·by_cases h100:cn≤100
       ·have h101:¬((100:Int)<cn):=by omega
        go_wp2_with fail;go_roundw
        case rel =>
         refine⟨k+1,by rw [Au.out],by go_num,by omega,by have:=Au.out;omega,fun q hq=>?_,xO.out⟩;rw [Ef.out]at hq;rcases F2.1 hq with hq|hq
         ·exact Cg.out q hq
         ·obtain rfl:=List.mem_singleton.1 hq
          exact Db.out rfl
        case measure=>simp [intOf];omega
       ·have h101:(100:Int)<cn:=by omega
        go_wp2_with fail;go_ret;exact⟨false,rfl,fun h=>(by cases h),xO.out⟩
     ·obtain rfl:k=M:=by omega
      have hki:¬((k:Int)<(k:Int)):=by omega
      have hall:ss.take k=ss:=FS (Nat.le_of_eq HM.out);rw [hall]at Cg;clear hall;go_wp2_with fail;go_roundw
      case rel =>
       refine⟨i+1,by rw [ym.out,mH,A3.out,HM.out],by go_num,by omega,by rw [ym.out,mH,A3.out,HM.out];exact Cf.out,fun q hq=>?_,wV.out⟩;rw [ym.out]at hq;rcases F2.1 hq with hq|hq
       ·exact Ce.out q hq
       ·obtain rfl:=List.mem_singleton.1 hq
        exact Cg.out
      case measure=>simp [intOf];omega
   ·obtain rfl:i=N:=by omega
    have hii:¬((i:Int)<(i:Int)):=by omega
    have hall:ts.take i=ts:=FS (Nat.le_of_eq HN.out);rw [hall]at Cd Ce;clear hall;go_wp2_with fail;go_ret;exact⟨true,rfl,fun _=>⟨by rw [HN.out];exact h12,Cd.out,Ce.out⟩,HK.out⟩
 ·have hi12:(12:Int)<(N:Int):=by omega
  go_enter Tryz.func13,Tryz.ntmps13;go_wp2_with fail;go_ret;exact⟨false,rfl,fun h=>(by cases h),Kept.refl _ _⟩
end Go.Proofs.YtdobimafhbfkhaaGreat
namespace Go.Proofs.YtdobimafhbfkhaaGreat
open Go.ChangeShapes Go.WideShapes Go.ChangeAt Go.RowKit Go.Deep
set_option maxRecDepth 100000
set_option linter.unusedSimpArgs false
instance : Inhabited PredE:=⟨peT⟩
instance : Inhabited Val:=⟨⟨false,0,⟨#[]⟩⟩⟩
instance : Inhabited SetM:=⟨setA⟩
instance : Inhabited StmE:=⟨stZ⟩
instance : Inhabited TxnE:=⟨⟨0,none,0,0⟩⟩
section
variable {H : Type} {enc : TypeId × Value → H} {P : Program} {w : World} {base : Nat} {spare : Nat → Bool} {held : Bool}
theorem fD {α:Type}[Inhabited α]{f:α→List Value}{G:α→Prop}{size:Nat}{t e:TypeId}(ht:P.underlying t=some (.slice e))(hsz:P.cellsOf e=size)(hpos:0<size)(hf:∀a,(f a).length=size)
  {fuel:Nat} (each:∀n,fuel=n+1→∀cs d,DataW.trod enc P w base spare held n e cs=some d→∃a:α,cs=f a∧G a)
  {cs:List Value} {x:DataW H×List MemPlace} (h:DataW.trod enc P w base spare held fuel t cs=some x) :
  ∃(v:Value) (l:List α),cs = [v]∧Rd w size v l.length (l.flatMap f)∧∀a∈l,G a:=by
 rcases DataW.trod_slice ht h with ⟨rfl,_⟩|⟨a,len,cap,elems,rest,n,hfu,rfl,_,hb,hl,hm,hlen,hel,_,_⟩
 ·exact⟨_,[],rfl,Rd.nil _ _,fun a ha=>by cases ha⟩
 ·rw [hsz]at hel
  obtain⟨A,hA⟩:=choose_lt (α:=α) (p:=fun i b=>w.cells? base (a.add (i*size)) size=some (f b)∧G b) (fun i (hi:i<len)=>by
   have h1:=hel i hi;rw [FP (show i<elems.length by omega)]at h1;obtain⟨cs',h2,h3⟩:=Option.bind_eq_some_iff.1 h1;obtain⟨b,rfl,hg⟩:=each n hfu _ _ h3;exact⟨b,h2,hg⟩)
  have hlen:((List.range len).map A).length=len:=by simp
  have hget:∀i,i<len→((List.range len).map A)[i]?=some (A i):=fun i hi=>by simp [Gg,List.getElem?_range hi]
  refine⟨_,(List.range len).map A,rfl,⟨by rw [cH hf],by rw [hlen];omega,some a,cap,by rw [hlen],by rw [hlen];omega,hm,fun h=>by simp at h,?_⟩,fun b hb=>?_⟩
  ·rw [hlen]
   by_cases h0:len=0
   ·exact .inl h0
   ·right
    obtain⟨_,hl0,hc0⟩:=World.cells?_some (hA 0 (by omega)).1;have h00:=hc0 0 hpos;have hsome:∃u,(f (A 0))[0]?=some u:=⟨(f (A 0))[0]'(by rw [hf];omega),FP _⟩;obtain⟨u0,hu0⟩:=hsome;rw [hu0]at h00;obtain⟨g,o,spot⟩:=a;have hspot:spot=none:=by simpa [Addr.add]using World.cell?_spot h00
    subst hspot;refine⟨g,o,rfl,fun j u hu=>?_⟩;have hj:j<len*size:=by
     have:=(FO.1 hu).1;rw [cH hf,hlen]at this;exact this
    have hi:j / size<len:=Nat.div_lt_of_lt_mul (by rw [Nat.mul_comm];exact hj);have hr:j%size<size:=Nat.mod_lt _ hpos;have hjj:j / size*size+j%size=j:=by rw [Nat.mul_comm];exact Nat.div_add_mod j size
    obtain⟨_,_,hc⟩:=World.cells?_some (hA _ hi).1;have hu':∃u',(f (A (j / size)))[j%size]?=some u':=⟨(f (A (j / size)))[j%size]'(by rw [hf];exact hr),FP _⟩;obtain⟨u',hu'⟩:=hu';have:=bB hf _ _ _ (hget _ hi) _ _ hu';rw [hjj,hu]at this;obtain rfl:=Option.some.inj this;have h2:=hc _ hr;rw [hu']at h2;rw [ew,ew,Nat.add_assoc,hjj]at h2;exact h2
  ·obtain⟨i,hi,rfl⟩:=List.mem_map.1 hb
   exact(hA i (by simpa using hi)).2
theorem pQ {t:TypeId}{f0 f1 f2 f3 f4:Field}{fuel:Nat}{cs:List Value}{x:DataW H×List MemPlace}(ht:P.underlying t=some (.struct #[f0,f1,f2,f3,f4]))(h:DataW.trod enc P w base spare held fuel t cs=some x) :
  ∃y0 y1 y2 y3 y4 n,fuel=n+1∧cs.length=P.cellsOf t∧DataW.trod enc P w base spare held n f0.type ((cs.drop f0.offset).take (P.cellsOf f0.type))=some y0∧DataW.trod enc P w base spare held n f1.type ((cs.drop f1.offset).take (P.cellsOf f1.type))=some y1 ∧
   DataW.trod enc P w base spare held n f2.type ((cs.drop f2.offset).take (P.cellsOf f2.type))=some y2∧DataW.trod enc P w base spare held n f3.type ((cs.drop f3.offset).take (P.cellsOf f3.type))=some y3∧DataW.trod enc P w base spare held n f4.type ((cs.drop f4.offset).take (P.cellsOf f4.type))=some y4:=by
 obtain⟨xs,n,hn,rfl,hl,hlen,hf⟩:=DataW.trod_struct ht h
 match xs,hlen with
 | [y0,y1,y2,y3,y4],_=>exact⟨y0,y1,y2,y3,y4,n,hn,hl,by simpa using hf 0 f0 rfl,by simpa using hf 1 f1 rfl,by simpa using hf 2 f2 rfl,by simpa using hf 3 f3 rfl,by simpa using hf 4 f4 rfl⟩
theorem u7' {t:TypeId}{f0 f1 f2:Field}{fuel:Nat}{cs:List Value}{x:DataW H×List MemPlace}(ht:P.underlying t=some (.struct #[f0,f1,f2]))(h:DataW.trod enc P w base spare held fuel t cs=some x) :
  ∃y0 y1 y2 n,fuel=n+1∧cs.length=P.cellsOf t∧DataW.trod enc P w base spare held n f0.type ((cs.drop f0.offset).take (P.cellsOf f0.type))=some y0∧DataW.trod enc P w base spare held n f1.type ((cs.drop f1.offset).take (P.cellsOf f1.type))=some y1 ∧
   DataW.trod enc P w base spare held n f2.type ((cs.drop f2.offset).take (P.cellsOf f2.type))=some y2:=by
 obtain⟨xs,n,hn,rfl,hl,hlen,hf⟩:=DataW.trod_struct ht h
 match xs,hlen with
 | [y0,y1,y2],_=>exact⟨y0,y1,y2,n,hn,hl,by simpa using hf 0 f0 rfl,by simpa using hf 1 f1 rfl,by simpa using hf 2 f2 rfl⟩
end
section
variable {H : Type} {enc : TypeId × Value → H} {w : World} {base : Nat} {spare : Nat → Bool} {held : Bool}
theorem lS : Tryz.prog.cellsOf 24=3:=by kernel_rfl
theorem oY : Tryz.prog.cellsOf 3=1:=by kernel_rfl
theorem cO_i64 : Tryz.prog.cellsOf 2=1:=by kernel_rfl
theorem pA : Tryz.prog.cellsOf 4=1:=by kernel_rfl
theorem cO_str : Tryz.prog.cellsOf 9=1:=by kernel_rfl
theorem wC : Tryz.prog.cellsOf 30=9:=by kernel_rfl
theorem cO_prs : Tryz.prog.cellsOf 28=1:=by kernel_rfl
theorem cO_row : Tryz.prog.cellsOf 26=1:=by kernel_rfl
theorem uX : Tryz.prog.cellsOf 70=7:=by kernel_rfl
theorem cO_sets : Tryz.prog.cellsOf 27=1:=by kernel_rfl
theorem cO_st : Tryz.prog.cellsOf 32=20:=by kernel_rfl
theorem cO_sts : Tryz.prog.cellsOf 49=1:=by kernel_rfl
theorem cO_tx : Tryz.prog.cellsOf 51=2:=by kernel_rfl
theorem PredsAt.of_rd {w:World}{v:Value}{l:List PredT}(h:PredsRd w v l):PredsAt (aB w) v l:=by
 induction h with
 | mk v es h _ ih=>exact .mk v es (RdP.of_rd h (by omega)) ih
theorem in64_wf {n:Int}(h:(Lit.int .i64 n).wf=true):bO n:=by
 unfold Lit.wf at h;simp only [Bool.and_eq_true,decide_eq_true_eq]at h;exact⟨h.1,h.2⟩
theorem jK {fuel:Nat}{cs:List Value}{x:DataW H×List MemPlace}(h:DataW.trod enc Tryz.prog w base spare held fuel 24 cs=some x):∃v:Val,cs=v.cells∧v.fit:=by
 obtain⟨y0,y1,y2,n,_,hl,t0,t1,t2⟩:=u7' Tryz.underlying24 h;rw [lS]at hl;simp only [pA,cO_i64,cO_str]at t0 t1 t2
 match cs,hl with
 | [c0,c1,c2],_ =>
  simp only [List.drop,List.take]at t0 t1 t2;obtain⟨b,hb,_⟩:=DataW.trod_bool Tryz.underlying4 t0;obtain⟨z,hz,_,wz⟩:=DataW.trod_int Tryz.underlying2 t1;obtain⟨s,hs,_,ws⟩:=DataW.trod_string Tryz.underlying9 t2;simp only [List.cons.injEq,and_true]at hb hz hs;subst hb hz hs;exact⟨⟨b,z,s⟩,rfl,in64_wf wz,ws⟩
theorem wd : ∀(fuel:Nat) {cs:List Value} {x:DataW H×List MemPlace},DataW.trod enc Tryz.prog w base spare held fuel 30 cs=some x→∃e:PredE,cs=e.cells∧PredsRd w (.slice e.la e.ln e.lc) e.subs:=by
 intro fuel
 induction fuel using Nat.strongRecOn with
 | _ fuel ih =>
  intro cs x h;obtain⟨y0,y1,y2,y3,y4,n,hn,hl,t0,t1,t2,t3,t4⟩:=pQ Tryz.underlying30 h;rw [wC]at hl;simp only [oY,lS,cO_prs]at t0 t1 t2 t3 t4
  match cs,hl with
  | [c0,c1,c2,c3,c4,c5,c6,c7,c8],_ =>
   simp only [List.drop,List.take]at t0 t1 t2 t3 t4;obtain⟨z0,hz0,_,_⟩:=DataW.trod_int Tryz.underlying3 t0;obtain⟨z1,hz1,_,_⟩:=DataW.trod_int Tryz.underlying3 t1;obtain⟨v,hv,_⟩:=jK t2;obtain⟨u,hu,_⟩:=jK t3;obtain⟨s,es,hs,hrd,hes⟩:=fD (f:=PredE.cells) (G:=fun e:PredE=>PredsRd w (.slice e.la e.ln e.lc) e.subs) Tryz.underlying28 wC (by omega) PredE.len (fun m hm cs d hd=>ih m (by omega) hd) t4;simp only [List.cons.injEq,and_true]at hz0 hz1 hs;simp only [Val.cells,List.cons.injEq,and_true]at hv hu;obtain⟨rfl,rfl,rfl⟩:=hv;obtain⟨rfl,rfl,rfl⟩:=hu;subst hz0 hz1 hs;obtain⟨_,_,la,lc,rfl,_⟩:=id hrd;exact⟨⟨z0,z1,v,u,la,es.length,lc,es.map PredE.p⟩,rfl,.mk _ es hrd hes⟩
theorem opO_row {fuel:Nat}{cs:List Value}{x:DataW H×List MemPlace}(h:DataW.trod enc Tryz.prog w base spare held fuel 26 cs=some x):∃(v:VT) (r:List Val),cs = [v.v]∧RowF (aB w) v.v r:=by
 obtain⟨v,r,hc,hrd,hf⟩:=fD (f:=Val.cells) (G:=fun v:Val=>v.fit) Tryz.underlying26 lS (by omega) Val.len (fun m hm cs d hd=>by obtain⟨e,he,hf⟩:=jK hd;exact⟨e,he,hf⟩) h;obtain⟨_,_,la,lc,rfl,_⟩:=id hrd;exact⟨⟨la,r.length,lc⟩,r,hc,RdP.of_rd hrd (by omega),hf⟩
theorem opO_set {fuel:Nat}{cs:List Value}{x:DataW H×List MemPlace}(h:DataW.trod enc Tryz.prog w base spare held fuel 70 cs=some x):∃s:SetM,cs=s.cells∧s.v.fit:=by
 obtain⟨y0,y1,y2,y3,y4,n,hn,hl,t0,t1,t2,t3,t4⟩:=pQ Tryz.underlying70 h;rw [uX]at hl;simp only [oY,lS]at t0 t1 t2 t3 t4
 match cs,hl with
 | [c0,c1,c2,c3,c4,c5,c6],_ =>
  simp only [List.drop,List.take]at t0 t1 t2 t3 t4;obtain⟨z0,hz0,_,_⟩:=DataW.trod_int Tryz.underlying3 t0;obtain⟨z1,hz1,_,_⟩:=DataW.trod_int Tryz.underlying3 t1;obtain⟨z2,hz2,_,_⟩:=DataW.trod_int Tryz.underlying3 t2;obtain⟨z3,hz3,_,_⟩:=DataW.trod_int Tryz.underlying3 t3;obtain⟨v,hv,hf⟩:=jK t4;simp only [List.cons.injEq,and_true]at hz0 hz1 hz2 hz3;simp only [Val.cells,List.cons.injEq,and_true]at hv;obtain⟨rfl,rfl,rfl⟩:=hv;subst hz0 hz1 hz2 hz3;exact⟨⟨z0,z1,z2,z3,v⟩,rfl,hf⟩
theorem wi {fuel:Nat}{cs:List Value}{x:DataW H×List MemPlace}(h:DataW.trod enc Tryz.prog w base spare held fuel 27 cs=some x):∃(v:VT) (l:List SetM),cs = [v.v]∧SetsF (aB w) v.v l:=by
 obtain⟨v,r,hc,hrd,hf⟩:=fD (f:=SetM.cells) (G:=fun s:SetM=>s.v.fit) Tryz.underlying27 uX (by omega) SetM.len (fun m hm cs d hd=>by obtain⟨e,he,hf⟩:=opO_set hd;exact⟨e,he,hf⟩) h;obtain⟨_,_,la,lc,rfl,_⟩:=id hrd;exact⟨⟨la,r.length,lc⟩,r,hc,RdP.of_rd hrd (by omega),hf⟩
theorem ub {P:Program}{t:TypeId}{f0 f1 f2 f3 f4 f5 f6 f7 f8 f9:Field}{fuel:Nat}{cs:List Value}{x:DataW H×List MemPlace}(ht:P.underlying t=some (.struct #[f0,f1,f2,f3,f4,f5,f6,f7,f8,f9]))(h:DataW.trod enc P w base spare held fuel t cs=some x) :
  ∃n,fuel=n+1∧cs.length=P.cellsOf t∧(∃y,DataW.trod enc P w base spare held n f0.type ((cs.drop f0.offset).take (P.cellsOf f0.type))=some y)∧(∃y,DataW.trod enc P w base spare held n f1.type ((cs.drop f1.offset).take (P.cellsOf f1.type))=some y)∧(∃y,DataW.trod enc P w base spare held n f2.type ((cs.drop f2.offset).take (P.cellsOf f2.type))=some y) ∧
   (∃y,DataW.trod enc P w base spare held n f3.type ((cs.drop f3.offset).take (P.cellsOf f3.type))=some y)∧(∃y,DataW.trod enc P w base spare held n f4.type ((cs.drop f4.offset).take (P.cellsOf f4.type))=some y)∧(∃y,DataW.trod enc P w base spare held n f5.type ((cs.drop f5.offset).take (P.cellsOf f5.type))=some y) ∧
   (∃y,DataW.trod enc P w base spare held n f6.type ((cs.drop f6.offset).take (P.cellsOf f6.type))=some y)∧(∃y,DataW.trod enc P w base spare held n f7.type ((cs.drop f7.offset).take (P.cellsOf f7.type))=some y)∧(∃y,DataW.trod enc P w base spare held n f8.type ((cs.drop f8.offset).take (P.cellsOf f8.type))=some y) ∧
   (∃y,DataW.trod enc P w base spare held n f9.type ((cs.drop f9.offset).take (P.cellsOf f9.type))=some y):=by
 obtain⟨xs,n,hn,rfl,hl,hlen,hf⟩:=DataW.trod_struct ht h
 match xs,hlen with
 | [y0,y1,y2,y3,y4,y5,y6,y7,y8,y9],_=>exact⟨n,hn,hl,⟨y0,by simpa using hf 0 f0 rfl⟩,⟨y1,by simpa using hf 1 f1 rfl⟩,⟨y2,by simpa using hf 2 f2 rfl⟩,⟨y3,by simpa using hf 3 f3 rfl⟩,⟨y4,by simpa using hf 4 f4 rfl⟩,⟨y5,by simpa using hf 5 f5 rfl⟩,⟨y6,by simpa using hf 6 f6 rfl⟩,⟨y7,by simpa using hf 7 f7 rfl⟩,⟨y8,by simpa using hf 8 f8 rfl⟩,⟨y9,by simpa using hf 9 f9 rfl⟩⟩
theorem vQ {fuel:Nat}{cs:List Value}{x:DataW H×List MemPlace}(h:DataW.trod enc Tryz.prog w base spare held fuel 32 cs=some x):∃e:StmE,cs=e.cells∧∃s:StmM,StmOk (aB w) e s:=by
 obtain⟨n,hn,hl,⟨y0,t0⟩,⟨y1,t1⟩,⟨y2,t2⟩,⟨y3,t3⟩,⟨y4,t4⟩,⟨y5,t5⟩,⟨y6,t6⟩,⟨y7,t7⟩,⟨y8,t8⟩,⟨y9,t9⟩⟩:=ub Tryz.underlying32 h;rw [cO_st]at hl;simp only [oY,lS,cO_row,cO_sets,wC,pA]at t0 t1 t2 t3 t4 t5 t6 t7 t8 t9
 match cs,hl with
 | [c0,c1,c2,c3,c4,c5,c6,c7,c8,c9,c10,c11,c12,c13,c14,c15,c16,c17,c18,c19],_ =>
  simp only [List.drop,List.take]at t0 t1 t2 t3 t4 t5 t6 t7 t8 t9;obtain⟨z0,hz0,_,_⟩:=DataW.trod_int Tryz.underlying3 t0;obtain⟨z1,hz1,_,_⟩:=DataW.trod_int Tryz.underlying3 t1;obtain⟨z2,hz2,_,_⟩:=DataW.trod_int Tryz.underlying3 t2;obtain⟨k,hk,hkf⟩:=jK t3;obtain⟨rv,r,hr,hrf⟩:=opO_row t4;obtain⟨sv,sl,hs,hsf⟩:=wi t5;obtain⟨pe,hp,hpr⟩:=wd n t6;obtain⟨z7,hz7,_,_⟩:=DataW.trod_int Tryz.underlying3 t7;obtain⟨z8,hz8,_,_⟩:=DataW.trod_int Tryz.underlying3 t8;obtain⟨z9,hz9,_⟩:=DataW.trod_bool Tryz.underlying4 t9;simp only [List.cons.injEq,and_true]at hz0 hz1 hz2 hr hs hz7 hz8 hz9;simp only [Val.cells,List.cons.injEq,and_true]at hk;simp only [PredE.cells,List.cons.injEq,and_true]at hp;obtain⟨rfl,rfl,rfl⟩:=hk;obtain⟨rfl,rfl,rfl,rfl,rfl,rfl,rfl,rfl,rfl⟩:=hp;subst hz0 hz1 hz2 hr hs hz7 hz8 hz9;exact⟨⟨z0,z1,z2,k,rv,sv,pe,z7,z8,z9⟩,rfl,⟨z0,z1,z2,k,r,sl,pe.p,z7,z8,z9⟩,⟨rfl,rfl,rfl,hrf,hsf,rfl,PredsAt.of_rd hpr,rfl,rfl,rfl,hkf⟩⟩
theorem oU {α β:Type}{R:α→β→Prop}:∀(l:List α),(∀a∈l,∃b,R a b)→∃m,All2 R l m
 | [],_=>⟨[],.nil⟩
 | a::l,h=>by
  obtain⟨b,hb⟩:=h a (Gc ..);obtain⟨m,hm⟩:=oU l (fun x hx=>h x (F4 _ hx));exact⟨b::m,.cons hb hm⟩
theorem uf {fuel:Nat}{cs:List Value}{x:DataW H×List MemPlace}(h:DataW.trod enc Tryz.prog w base spare held fuel 49 cs=some x):∃(v:VT) (l:List StmM),cs = [v.v]∧StmL (aB w) v.v l:=by
 obtain⟨v,r,hc,hrd,hf⟩:=fD (f:=StmE.cells) (G:=fun e:StmE=>∃s:StmM,StmOk (aB w) e s) Tryz.underlying49 cO_st (by omega) StmE.len (fun m hm cs d hd=>by obtain⟨e,he,hf⟩:=vQ hd;exact⟨e,he,hf⟩) h;obtain⟨_,_,la,lc,rfl,_⟩:=id hrd;obtain⟨ss,hss⟩:=oU r hf;exact⟨⟨la,r.length,lc⟩,ss,hc,r,hss,RdP.of_rd hrd (by omega)⟩
theorem uK {P:Program}{t:TypeId}{f0 f1:Field}{fuel:Nat}{cs:List Value}{x:DataW H×List MemPlace}(ht:P.underlying t=some (.struct #[f0,f1]))(h:DataW.trod enc P w base spare held fuel t cs=some x) :
  ∃y0 y1 n,fuel=n+1∧cs.length=P.cellsOf t∧DataW.trod enc P w base spare held n f0.type ((cs.drop f0.offset).take (P.cellsOf f0.type))=some y0∧DataW.trod enc P w base spare held n f1.type ((cs.drop f1.offset).take (P.cellsOf f1.type))=some y1:=by
 obtain⟨xs,n,hn,rfl,hl,hlen,hf⟩:=DataW.trod_struct ht h
 match xs,hlen with
 | [y0,y1],_=>exact⟨y0,y1,n,hn,hl,by simpa using hf 0 f0 rfl,by simpa using hf 1 f1 rfl⟩
theorem opO_txn {fuel:Nat}{cs:List Value}{x:DataW H×List MemPlace}(h:DataW.trod enc Tryz.prog w base spare held fuel 51 cs=some x):∃t:TxnE,cs=t.cells∧∃ss:List StmM,StmL (aB w) (.slice t.sa t.sn t.sc) ss:=by
 obtain⟨y0,y1,n,hn,hl,t0,t1⟩:=uK Tryz.underlying51 h;rw [cO_tx]at hl;simp only [oY,cO_sts]at t0 t1
 match cs,hl with
 | [c0,c1],_ =>
  simp only [List.drop,List.take]at t0 t1;obtain⟨z0,hz0,_,_⟩:=DataW.trod_int Tryz.underlying3 t0;obtain⟨v,ss,hv,hs⟩:=uf t1;simp only [List.cons.injEq,and_true]at hz0 hv;subst hz0 hv;exact⟨⟨z0,v.ro,v.rn,v.rc⟩,rfl,ss,hs⟩
end
section
variable {H : Type} {enc : TypeId × Value → H} {w : World} {base : Nat} {spare : Nat → Bool} {held : Bool}
theorem uL : Tryz.prog.cellsOf 66=1:=by kernel_rfl
theorem uq {fuel:Nat}{cs:List Value}{x:DataW H×List MemPlace}(h:DataW.trod enc Tryz.prog w base spare held fuel 64 cs=some x):∃(v:Value) (r:List Bool),cs = [v]∧RdP (aB w) 1 v r.length (r.flatMap dt):=by
 obtain⟨v,r,hc,hrd,_⟩:=fD (f:=dt) (G:=fun _:Bool=>True) Tryz.underlying64 pA (by omega) blen (fun m hm cs d hd=>by obtain⟨b,hb,_⟩:=DataW.trod_bool Tryz.underlying4 hd;exact⟨b,hb,trivial⟩) h;exact⟨v,r,hc,RdP.of_rd hrd (by omega)⟩
theorem te {fuel:Nat}{cs:List Value}{x:DataW H×List MemPlace}(h:DataW.trod enc Tryz.prog w base spare held fuel 66 cs=some x):∃a:Value×List Bool,cs = [a.1]∧RdP (aB w) 1 a.1 a.2.length (a.2.flatMap dt):=by
 obtain⟨xs,n,hn,rfl,hl,hlen,hf⟩:=DataW.trod_struct Tryz.underlying66 h;rw [uL]at hl
 match xs,hlen with
 | [y0],_ =>
  have t0:=hf 0 _ rfl
  match cs,hl with
  | [c0],_ =>
   obtain⟨v,r,hc,hr⟩:=uq (x:=y0) (cs:=[c0]) (by
    have h9:[y0][0]?=some y0:=rfl;rw [h9]at t0;exact t0)
   exact⟨(v,r),hc,hr⟩
theorem rN {fuel:Nat}{cs:List Value}{x:DataW H×List MemPlace}(h:DataW.trod enc Tryz.prog w base spare held fuel 22 cs=some x):∃(v:Value) (ts:List (List Bool)),cs = [v]∧TblsAt (aB w) v ts:=by
 obtain⟨v,l,rfl,hrd,hx⟩:=fD (f:=fun a:Value×List Bool=>[a.1]) (G:=fun a:Value×List Bool=>RdP (aB w) 1 a.1 a.2.length (a.2.flatMap dt)) Tryz.underlying22 uL (by omega) (fun _=>rfl) (fun m hm cs d hd=>te hd) h;have hfl:l.flatMap (fun a:Value×List Bool=>[a.1])=l.map Prod.fst:=by
  clear hrd hx
  induction l with
  | nil=>rfl
  | cons a l ih=>rw [F1,ih];rfl
 rw [hfl]at hrd;refine⟨v,l.map Prod.snd,rfl,l.map Prod.fst,by simp,fun u hu=>?_,by simpa using RdP.of_rd hrd (by omega),fun i u r hu hr=>?_⟩
 ·obtain⟨a,ha,rfl⟩:=List.mem_map.1 hu
  exact(hx a ha).oneV
 ·rw [Gg]at hu hr
  cases hl:l[i]? with
  | none=>rw [hl]at hu;cases hu
  | some a =>
   rw [hl]at hu hr;obtain rfl:=Option.some.inj hu;obtain rfl:=Option.some.inj hr;exact hx a (FQ hl)
theorem vm {fuel:Nat}{cs:List Value}{x:DataW H×List MemPlace}(h:DataW.trod enc Tryz.prog w base spare held fuel 38 cs=some x):∃(v:Value) (l:List (List StmM)),cs = [v]∧TxnL (aB w) v l:=by
 obtain⟨v,r,hc,hrd,hf⟩:=fD (f:=TxnE.cells) (G:=fun t:TxnE=>∃ss:List StmM,StmL (aB w) (.slice t.sa t.sn t.sc) ss) Tryz.underlying38 cO_tx (by omega) TxnE.len (fun m hm cs d hd=>opO_txn hd) h;obtain⟨ss,hss⟩:=oU r hf;exact⟨v,ss,hc,r,hss,RdP.of_rd hrd (by omega)⟩
end
end Go.Proofs.YtdobimafhbfkhaaGreat
