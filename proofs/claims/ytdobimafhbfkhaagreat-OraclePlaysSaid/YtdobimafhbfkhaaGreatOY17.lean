/- The tree: contract of Put, and what follows. -/
import Derived.Test.YtdobimafhbfkhaaGreatOY16
import Derived.Test.YtdobimafhbfkhaaGreatOY12
set_option maxHeartbeats 64000000
namespace Go.Proofs.YtdobimafhbfkhaaGreat
open Go.ChangeShapes Go.WideShapes Go.ChangeAt Go.RowKit
set_option maxRecDepth 100000
set_option linter.unusedSimpArgs false
theorem tp {B w:World}{D:PH}{t r:Nat}{T T1:TM}{l:List HP}{k:Val}{v:VT}{fr:Bool}{mk:NodeM}(hr:am k=true)(hroot:T.k.root=(r:Int))(hfit:T.k.fit)
  (hp:T.PutR k v r T1 fr) (hk:T1.nodes[r]?=some mk) (hz:mk.size≤4) (h:TreeA B D w t T l) :
  Calls Tryz.prog 92 #[.pointer (some ⟨t,0,none⟩),k.v,v.v] w fun e w'=>e = .returned (.bool fr)∧TreeA B D w' t (T1.more fr) l:=by
 obtain⟨nv,fv,ns,hns,hs⟩:=h;have hs1:=hs.alloc #[.bool k.t,.int .i64 k.n,.string k.s] tV;have hkeep:=hp.keep;obtain⟨f1,f2,f3,f4⟩:=hfit;have wG:=FH hs1;have HR:=FH hr;have HP:=FH (rt (B:=B) (D:=D) (t:=t) hp);have xr:=FH hns;have HK:=FH hk;have wN:=FH hkeep;have xH:=FH hroot;have hw:IntKind.i64.wrap (T.k.many+1)=T.k.many+1:=cq _ (by omega) (by omega);have HW:=FH hw;clear hs hs1 hr hp hns hk hkeep hw hroot;dsimp only [Val.v,RowT.v];go_enter Tryz.func92,Tryz.ntmps92;go_upto_region 1 with (fail)
 obtain⟨W,hW,hs2⟩:=wG.out.hide;rw [←hW];clear wG hW;generalize w.heap.size=bk at hs2 ⊢;obtain⟨x0,x1,x2,xf⟩:=aQ (Sat.blk hs2 4 rfl);have wJ:=FH hs2;clear hs2;go_upto_region 3 with ((go_at_call 32;refine(cP k _).mono ?_;rw [HR.out];rintro e1 w1 ⟨rfl,hk1⟩;have wI:=FH (wJ.out.kept hk1);clear hk1 wJ x0 x1 x2 xf))
 obtain⟨t0,t1,t2,t3,t4,tf⟩:=wI.out.tcells;rw [xH.out]at t2;have hr0:¬((r:Int)<0):=by omega
 obtain⟨x0,x1,x2,xf⟩:=aQ (Sat.blk wI.out 4 rfl);have Bu:=FH (HP.out w1.drew _ ⟨_,_,_,xr.out,wI.out.drew⟩);clear wI HP;go_upto_region 6 with (fail)
 refine aH [rq 0 7,rq 1 7,rq 2 7,rq 3 7,rq 4 7,rq 5 7,rq 6 7,(7,true,0),rq 8 999] ?_;iterate 7 (refine ae rfl rfl fun K hK=>?_;go_simp;apply hK;clear hK K)
 refine af rfl ?_;refine al rfl fun K hK=>?_;go_simp;refine Bu.out.mono ?_;clear t0 t1 t2 t3 t4 tf x0 x1 x2 xf hr0;rintro e6 w6 ⟨rfl,ha6⟩;have xl:=FH (dK HK.out ha6);obtain⟨nv6,fv6,ns6,hns6,hs6⟩:=ha6;rw [wN.out]at hs6;obtain⟨t0,t1,t2,t3,t4,tf⟩:=hs6.tcells;rw [xH.out]at t2;have wK:=FH hs6;have AN:=FH hns6;clear hs6 hns6 Bu;refine hK _ _ ?_;clear hK K;refine wpList_nil ?_;apply And.intro
 ·go_simp
 refine ae rfl rfl fun K hK=>?_;go_simp;apply hK;clear hK K;refine ag ?_;have hz':¬((mk.size:Int) > 4):=by omega
 go_upto_region 13 with ((go_at_call 109;refine xl.out.mono ?_;rintro e7 w7 ⟨rfl,rfl⟩))
 have hw:=HW.out;cases fr
 ·go_wp2_with (fail)
  go_ret;exact⟨rfl,_,_,_,AN.out,by show TreeS _ _ _ _ _ _ _ T1.free T1.k _;rw [wN.out];exact wK.out.drop⟩
 ·go_wp2_with (fail)
  go_ret;exact⟨rfl,_,_,_,AN.out,by show TreeS _ _ _ _ _ _ _ T1.free { T1.k with many:=T1.k.many+1 } _;rw [wN.out];exact(wK.out.set_many _).drop⟩
def TM.high (T:TM)(top:Nat):TM:={ T with k:={ root:=(top:Int),many:=T.k.many,depth:=T.k.depth+1 } }
theorem tk {B w:World}{D:PH}{t r:Nat}{T T1 T3:TM}{l:List HP}{k:Val}{v:VT}{fr:Bool}{mk:NodeM}(hr:am k=true)(hroot:T.k.root=(r:Int))(hfit:T.k.fit)
  (hp:T.PutR k v r T1 fr) (hk:T1.nodes[r]?=some mk) (hz:4<mk.size) (hsl:T1.maySlot) (hsp:(T1.top r).Split (T1.slot false).1 0 T3) (h:TreeA B D w t T l) :
  Calls Tryz.prog 92 #[.pointer (some ⟨t,0,none⟩),k.v,v.v] w fun e w'=>e = .returned (.bool fr)∧TreeA B D w' t ((T3.high (T1.slot false).1).more fr) l:=by
 obtain⟨nv,fv,ns,hns,hs⟩:=h;have hs1:=hs.alloc #[.bool k.t,.int .i64 k.n,.string k.s] tV;have hkeep:=hp.keep;obtain⟨f1,f2,f3,f4⟩:=hfit;obtain⟨top,T2,hT2⟩:∃top T2,T1.slot false=(top,T2):=⟨_,_,rfl⟩;have hSL:∀(w:World) (l:List HP),TreeA B D w t T1 l→_:=fun w l=>lu false hsl.1 hsl.2.1 hsl.2.2;have h3k:T3.k=T.k:=by rw [hsp.keep,←hkeep];exact j9 T1 false
 have h2k:T2.k=T.k:=by rw [←hkeep];have:=j9 T1 false;rw [hT2]at this;exact this
 have hspl:∀(w:World) (l:List HP),TreeA B D w t (T1.top r) l→Calls Tryz.prog 110 #[.pointer (some ⟨t,0,none⟩),.int .i64 (T1.slot false).1,.int .i64 0] w fun e w'=>e = .returned (.tuple #[])∧TreeA B D w' t T3 l:=fun w l=>qr hsp;have htop:T1.top r = { T2 with nodes:=T2.nodes.set top { aS false with kids:=[r] } }:=by unfold TM.top;rw [hT2]
 have hfm:T2.nodes[top]?=some (aS false):=by
  have e:(T1.slot false).2.nodes[(T1.slot false).1]?=some (aS false):=by
   unfold TM.slot;split
   ·rename_i x hx
    dsimp only;rw [FX (hsl.1 x hx)]
   ·simp
  rw [hT2]at e;exact e
 rw [htop]at hspl;rw [hT2]at hspl hSL ⊢;have hrlt:=(FO.1 hk).1;have wG:=FH hs1;have HR:=FH hr;have HP:=FH (rt (B:=B) (D:=D) (t:=t) hp);have xr:=FH hns;have HK:=FH hk;have wN:=FH hkeep;have xH:=FH hroot;have Aj:=FH hSL;have CM:=FH hspl;have H2K:=FH h2k;have H3K:=FH h3k;have Cq:=FH hfm;have hw:IntKind.i64.wrap (T.k.many+1)=T.k.many+1:=cq _ (by omega) (by omega);have HW:=FH hw;have hwd:IntKind.i64.wrap (T.k.depth+1)=T.k.depth+1:=cq _ (by omega) (by omega);have EW:=FH hwd;clear hs hs1 hr hp hns hk hkeep hw hwd hroot hSL hspl h2k h3k hfm htop hsp hsl hT2;dsimp only [Val.v,RowT.v];go_enter Tryz.func92,Tryz.ntmps92;go_upto_region 1 with (fail)
 obtain⟨W,hW,hs2⟩:=wG.out.hide;rw [←hW];clear wG hW;generalize w.heap.size=bk at hs2 ⊢;obtain⟨x0,x1,x2,xf⟩:=aQ (Sat.blk hs2 4 rfl);have wJ:=FH hs2;clear hs2;go_upto_region 3 with ((go_at_call 32;refine(cP k _).mono ?_;rw [HR.out];rintro e1 w1 ⟨rfl,hk1⟩;have wI:=FH (wJ.out.kept hk1);clear hk1 wJ x0 x1 x2 xf))
 obtain⟨t0,t1,t2,t3,t4,tf⟩:=wI.out.tcells;rw [xH.out]at t2;have hr0:¬((r:Int)<0):=by omega
 obtain⟨x0,x1,x2,xf⟩:=aQ (Sat.blk wI.out 4 rfl);have Bu:=FH (HP.out w1.drew _ ⟨_,_,_,xr.out,wI.out.drew⟩);clear wI HP;go_upto_region 6 with (fail)
 refine aH [rq 0 7,rq 1 7,rq 2 7,rq 3 7,rq 4 7,rq 5 7,rq 6 7,(7,true,0),rq 8 999] ?_;iterate 7 (refine ae rfl rfl fun K hK=>?_;go_simp;apply hK;clear hK K)
 refine af rfl ?_;refine al rfl fun K hK=>?_;go_simp;refine Bu.out.mono ?_;clear t0 t1 t2 t3 t4 tf x0 x1 x2 xf hr0;rintro e6 w6 ⟨rfl,ha6⟩;have xl:=FH (dK HK.out ha6);have Ey:=FH (Aj.out _ _ ha6);obtain⟨nv6,fv6,ns6,hns6,hs6⟩:=ha6;rw [wN.out]at hs6;obtain⟨t0,t1,t2,t3,t4,tf⟩:=hs6.tcells;rw [xH.out]at t2;clear hs6 hns6 Bu Aj;refine hK _ _ ?_;clear hK K;refine wpList_nil ?_;apply And.intro
 ·go_simp
 refine ae rfl rfl fun K hK=>?_;go_simp;apply hK;clear hK K;refine ag ?_;have hz':((mk.size:Int) > 4):=by omega
 go_upto_region 9 with (first|(go_at_call 109;refine xl.out.mono ?_;rintro e7 w7 ⟨rfl,rfl⟩)|(go_at_call 107;refine Ey.out.mono ?_;clear t0 t1 t2 t3 t4 tf;rintro e7 w7 ⟨rfl,nv7,fv7,ns7,hns7,hs7⟩;rw [H2K.out]at hs7;obtain⟨⟨okv,ovv,odv⟩,hpo⟩:=aK hns7 Cq.out;obtain⟨g,cn,rfl,_,hcm⟩:=hs7.nv_some (by have:=(FO.1 hpo).1;omega);unfold maxLen at hcm;have hob:(top:Int)<(ns7.length:Int):=(by have:=(FO.1 hpo).1;omega);obtain⟨t0,t1,t2,t3,t4,tf⟩:=hs7.tcells;obtain⟨n0,n1,n2,n3,nf⟩:=hs7.node_cells hpo;rw [xH.out]at t2;dsimp only at n0 n1 n2 n3;have xZ:=FH hpo;have wP:=FH hs7;have AO:=FH hns7;clear hs7 hns7 hpo Ey))
 refine aH [rq 0 12,rq 1 12,rq 2 12,rq 3 12,rq 4 12,rq 5 9,rq 6 9,rq 7 9,rq 8 9,(9,true,0),rq 10 12,rq 11 12,(12,true,0)] ?_;iterate 9 (refine ae rfl rfl fun K hK=>?_;go_simp;apply hK;clear hK K)
 refine af rfl ?_;refine wpList_plain rfl fun K hK=>?_;go_simp;refine hK _ _ ?_;clear hK K;refine wpList_nil ?_;have hs8:=(wP.out.alloc #[.int .i64 (r:Int)] tI).drew;obtain⟨W8,hW8,hs8⟩:=hs8.hide;rw [←hW8];generalize w7.heap.size=bx at hs8 ⊢;clear hW8 wP n0 n1 n2 n3 nf t0 t1 t2 t3 t4 tf;obtain⟨t0,t1,t2,t3,t4,tf⟩:=hs8.tcells;obtain⟨n0,n1,n2,n3,nf⟩:=hs8.node_cells xZ.out;rw [xH.out]at t2;dsimp only at n0 n1 n2 n3;have xQ:=FH hs8;clear hs8;apply And.intro
 ·go_simp
 iterate 2 (refine ae rfl rfl fun K hK=>?_;go_simp;apply hK;clear hK K)
 refine af rfl ?_;refine wpList_plain rfl fun K hK=>?_;go_simp;refine hK _ _ ?_;clear hK K;refine wpList_nil ?_;apply And.intro
 ·go_simp
 refine ag ?_;go_upto_region 10 with (fail)
 have h8:=Sat.front xQ.out 4 rfl;simp only [List.eraseIdx_cons_succ,List.eraseIdx_cons_zero]at h8;have h8':=Sat.row_own (size:=1) (n:=1) (cap:=1) (cur:=[.int .i64 (r:Int)]) h8 (by omega) (by unfold maxLen;omega) (by simp) rfl (by intro u hu;simp at hu;subst hu;rfl);obtain⟨W9,hW9,hs9⟩:=(TreeS.put_kids (ds:=[r]) xZ.out h8').hide;rw [←hW9];clear hW9 xQ h8 h8' n0 n1 n2 n3 nf t0 t1 t2 t3 t4 tf;rw [←H2K.out]at hs9;have yi:=FH (CM.out W9 _ ⟨_,_,_,by rw [List.map_set,AO.out],hs9⟩);clear hs9 CM;have hwd:=EW.out;have hw:=HW.out;go_upto_region 12 with ((go_at_call 110;refine yi.out.mono ?_;rintro e10 w10 ⟨rfl,nv10,fv10,ns10,hns10,hs10⟩;rw [H3K.out]at hs10;obtain⟨t0,t1,t2,t3,t4,tf⟩:=hs10.tcells;have yu:=FH hs10;have Bv:=FH hns10;clear hs10 hns10 yi))
 obtain⟨W11,hW11,hs11⟩:=(yu.out.set_root top).hide;rw [←hW11];clear hW11 yu t0 t1 t2 t3 t4 tf;obtain⟨t0,t1,t2,t3,t4,tf⟩:=hs11.tcells;have zM:=FH hs11;clear hs11;go_upto_region 13 with (fail)
 obtain⟨W12,hW12,hs12⟩:=(zM.out.set_depth (T.k.depth+1)).hide;rw [←hW12];clear hW12 zM t0 t1 t2 t3 t4 tf;obtain⟨t0,t1,t2,t3,t4,tf⟩:=hs12.tcells;have yQ:=FH hs12;clear hs12;cases fr
 ·go_wp2_with (fail)
  go_ret;exact⟨rfl,_,_,_,Bv.out,by rw [show(TM.more (T3.high top) false).k=({ root:=(top:Int),many:=T.k.many,depth:=T.k.depth+1 }:Num) by rw [←H3K.out];rfl];exact yQ.out.drop⟩
 ·go_wp2_with (fail)
  go_ret;exact⟨rfl,_,_,_,Bv.out,by rw [show(TM.more (T3.high top) true).k=({ root:=(top:Int),many:=T.k.many+1,depth:=T.k.depth+1 }:Num) by rw [←H3K.out];rfl];exact(yQ.out.set_many _).drop⟩
theorem iA {ks:List Val}(k:Val)(h:cJ ks):∀i x,ks[i]?=some x→(i<bu ks k↔ai x k≤0):=by
 intro i x hx;have hs:=go k h;unfold bu;cases hb:dW ks k
 ·simp only [Bool.false_eq_true,if_false,Nat.add_zero]
  rw [hs i x hx]
  constructor
  ·intro h;omega
  ·intro hle
   by_cases hlt:ai x k<0
   ·exact hlt
   ·exfalso
    have h0:ai x k=0:=by omega
    have hi:¬i<bg ks k:=fun h=>hlt ((hs i x hx).1 h);have hlen:=(FO.1 hx).1;obtain⟨y,hy⟩:∃y,ks[bg ks k]?=some y:=⟨_,FP (by omega)⟩;have hny:¬ai y k<0:=fun h=>by have:=(hs _ y hy).2 h;omega
    by_cases he:bg ks k=i
    ·rw [he]at hy
     rw [hx]at hy;cases hy;have:=(gn (ks:=ks) k).2 ⟨x,by rw [he];exact hx,h0⟩;rw [hb]at this;cases this
    ·have hyx:ai y x<0:=by
      have:=List.pairwise_iff_getElem.1 h (bg ks k) i (by omega) hlen (by omega);rw [FP (by omega)]at hy;rw [FP hlen]at hx;rw [Option.some.inj hy,Option.some.inj hx]at this;exact this
     exact hny (jI hyx (by omega))
 ·simp only [if_true]
  obtain⟨y,hy,hy0⟩:=(gn (ks:=ks) k).1 hb;by_cases he:i=bg ks k
  ·subst he
   rw [hx]at hy;cases hy
   constructor<;>intro _<;>omega
  ·by_cases hlt:i<bg ks k
   ·have:=(hs i x hx).1 hlt
    constructor<;>intro _<;>omega
   ·have hlen:=(FO.1 hx).1
    have hyx:ai y x<0:=by
     have hl2:=(FO.1 hy).1;have:=List.pairwise_iff_getElem.1 h (bg ks k) i hl2 hlen (by omega);rw [FP hl2]at hy;rw [FP hlen]at hx;rw [Option.some.inj hy,Option.some.inj hx]at this;exact this
    have:¬ai x k≤0:=fun h=>by have:=jI hyx h;omega
    constructor<;>intro _<;>omega
abbrev PL := List (Val×VT)
structure Kid where
 id:Nat
 L:PL
 ids:List Nat
def Fit (nodes:List NodeM)(i:Nat):Prop:=∃m,nodes[i]?=some m∧2≤m.size∧m.size≤4
def Seps (keys:List Val)(cs:List Kid):Prop:=∀j k,keys[j]?=some k→(∀x∈(cs.take (j+1)).flatMap Kid.L,ai x.1 k<0)∧(∀x∈(cs.drop (j+1)).flatMap Kid.L,ai k x.1≤0)
def Rep (nodes:List NodeM):Nat→Nat→PL→List Nat→Prop
 | 0,i,L,ids=>∃m,nodes[i]?=some m∧m.leaf=true∧m.kids = []∧m.vals.length=m.keys.length∧L=m.keys.zip m.vals∧ids = [i]
 | d+1,i,L,ids=>∃m,nodes[i]?=some m∧m.leaf=false∧m.vals = []∧∃cs:List Kid,m.kids=cs.map Kid.id∧cs.length=m.keys.length+1∧(∀c∈cs,Rep nodes d c.id c.L c.ids∧Fit nodes c.id)∧Seps m.keys cs∧cJ m.keys∧L=cs.flatMap Kid.L∧ids=i::cs.flatMap Kid.ids
theorem Rep.self {nodes:List NodeM}:∀ {d i:Nat} {L:PL} {ids:List Nat},Rep nodes d i L ids→i∈ids
 | 0,_,_,_,⟨_,_,_,_,_,_,h⟩=>by rw [h];simp
 | _+1,_,_,_,⟨_,_,_,_,_,_,_,_,_,_,_,h⟩=>by rw [h];simp
theorem Rep.node {nodes:List NodeM}:∀ {d i:Nat} {L:PL} {ids:List Nat},Rep nodes d i L ids→∃m,nodes[i]?=some m
 | 0,_,_,_,⟨m,h,_⟩=>⟨m,h⟩
 | _+1,_,_,_,⟨m,h,_⟩=>⟨m,h⟩
theorem Rep.frame {nodes nodes':List NodeM}:∀ {d i:Nat} {L:PL} {ids:List Nat},Rep nodes d i L ids→(∀x∈ids,nodes'[x]?=nodes[x]?)→Rep nodes' d i L ids
 | 0,i,_,_,⟨m,h,r⟩,hf=>⟨m,by rw [hf i (by rw [r.2.2.2.2];simp)];exact h,r⟩
 | d+1,i,_,ids,⟨m,h,h1,h2,cs,h3,h4,h5,h6,h7,h8,h9⟩,hf=>by
  refine⟨m,by rw [hf i (by rw [h9];simp)];exact h,h1,h2,cs,h3,h4,fun c hc=>?_,h6,h7,h8,h9⟩;have hsub:∀x∈c.ids,nodes'[x]?=nodes[x]?:=fun x hx=>hf x (by rw [h9];exact F4 _ (Gi.2 ⟨c,hc,hx⟩));obtain⟨h10,m',h11,h12⟩:=h5 c hc;exact⟨h10.frame hsub,m',by rw [hsub c.id h10.self];exact h11,h12⟩
theorem Fit.frame {nodes nodes':List NodeM}{i:Nat}(h:Fit nodes i)(hf:nodes'[i]?=nodes[i]?):Fit nodes' i:=by
 obtain⟨m,h1,h2⟩:=h;exact⟨m,by rw [hf];exact h1,h2⟩
theorem Rep.some {nodes:List NodeM}:∀ {d i:Nat} {L:PL} {ids:List Nat},Rep nodes d i L ids→(∃m,nodes[i]?=some m∧1≤m.size)→L≠[]
 | 0,_,_,_,⟨m,h,h1,h2,h3,h4,_⟩,⟨m',h',hs⟩=>by
  rw [h]at h';cases h';unfold NodeM.size at hs;rw [h1,if_pos rfl]at hs;intro e;rw [e]at h4;have:=congrArg List.length h4;simp [List.length_zip,h3]at this;omega
 | d+1,_,_,_,⟨m,h,h1,h2,cs,h3,h4,h5,_,_,h8,_⟩,_=>by
  cases cs with
  | nil=>simp at h4
  | cons c cs =>
   obtain⟨h10,m',h11,h12,_⟩:=h5 c (Gc ..);have:=Rep.some h10 ⟨m',h11,by omega⟩;rw [h8];simp [this]
theorem dI {α:Type}(A B:List α)(x:α)(n:Nat):(A++x::B).take n=if n≤A.length then A.take n else A++x::B.take (n-A.length-1):=by
 split
 ·rename_i h;rw [F9 h]
 ·rename_i h
  obtain⟨q,rfl⟩:∃q,n=A.length+(q+1):=⟨n-A.length-1,by omega⟩;rw [List.take_length_add_append,List.take_succ_cons,show A.length+(q+1)-A.length-1=q by omega]
theorem dF {α:Type}(A B:List α)(x:α)(n:Nat):(A++x::B).drop n=if n≤A.length then A.drop n++x::B else B.drop (n-A.length-1):=by
 split
 ·rename_i h;rw [List.drop_append_of_le_length h]
 ·rename_i h
  obtain⟨q,rfl⟩:∃q,n=A.length+(q+1):=⟨n-A.length-1,by omega⟩;rw [List.drop_length_add_append,List.drop_succ_cons,show A.length+(q+1)-A.length-1=q by omega]
theorem Seps.swap {keys:List Val}{A Bs:List Kid}{c0 c1:Kid}(h:Seps keys (A++c0::Bs)){p:Val×VT}(hL:∀x∈c1.L,x.1=p.1∨x∈c0.L)
  (hp:∀j k,keys[j]?=some k→if A.length≤j then ai p.1 k<0 else ai k p.1≤0):Seps keys (A++c1::Bs):=by
 intro j k hk;obtain⟨h1,h2⟩:=h j k hk;have h3:=hp j k hk;rw [dI]at h1 ⊢;rw [dF]at h2 ⊢;by_cases hj:j+1≤A.length
 ·rw [if_pos hj]at h1 h2 ⊢
  rw [if_neg (by omega)]at h3;rw [if_pos hj];refine⟨h1,fun x hx=>?_⟩;rw [FT,F1,F2,F2]at hx;rcases hx with hx|hx|hx
  ·exact h2 x (by rw [FT];exact F2.2 (.inl hx))
  ·rcases hL x hx with e|hx
   ·rw [e];exact h3
   ·exact h2 x (by rw [FT,F1];exact F2.2 (.inr (F2.2 (.inl hx))))
  ·exact h2 x (by rw [FT,F1];exact F2.2 (.inr (F2.2 (.inr hx))))
 ·rw [if_neg hj]at h1 h2 ⊢
  rw [if_pos (by omega)]at h3;rw [if_neg hj];refine⟨fun x hx=>?_,h2⟩;rw [FT,F1,F2,F2]at hx;rcases hx with hx|hx|hx
  ·exact h1 x (by rw [FT];exact F2.2 (.inl hx))
  ·rcases hL x hx with e|hx
   ·rw [e];exact h3
   ·exact h1 x (by rw [FT,F1];exact F2.2 (.inr (F2.2 (.inl hx))))
  ·exact h1 x (by rw [FT,F1];exact F2.2 (.inr (F2.2 (.inr hx))))
theorem oe {α:Type}(l:List α)(c:Nat)(x:α)(hc:c≤l.length)(j:Nat):(aT l c x)[j]?=if j<c then l[j]? else if j=c then some x else l[j-1]?:=by
 unfold aT;have hl:(l.take c).length=c:=by rw [F0];omega
 by_cases h1:j<c
 ·rw [if_pos h1,Gm (by omega),List.getElem?_take,if_pos h1]
 ·rw [if_neg h1,Gb (by omega),hl]
  by_cases h2:j=c
  ·subst h2;simp
  ·rw [if_neg h2]
   obtain⟨q,rfl⟩:∃q,j=c+(q+1):=⟨j-c-1,by omega⟩;rw [show c+(q+1)-c=q+1 by omega,List.getElem?_cons_succ,List.getElem?_drop,show c+(q+1)-1=c+q by omega]
theorem Seps.split {keys:List Val}{A Bs:List Kid}{c1 k1 k2:Kid}{sep:Val}(hlen:(A++c1::Bs).length=keys.length+1)(h:Seps keys (A++c1::Bs))(hs:cJ keys)
  (hL:c1.L=k1.L++k2.L) (h1:∀x∈k1.L,ai x.1 sep<0) (h2:∀x∈k2.L,ai sep x.1≤0) (hn1:k1.L≠[]) (hn2:k2.L≠[]) :
  Seps (aT keys A.length sep) (A++k1::k2::Bs)∧cJ (aT keys A.length sep):=by
 simp only [FR,List.length_cons]at hlen;obtain⟨y,hy⟩:=List.exists_mem_of_ne_nil _ hn1;obtain⟨z,hz⟩:=List.exists_mem_of_ne_nil _ hn2;have lo:∀j k,keys[j]?=some k→j<A.length→ai k sep<0:=fun j k hk hj=>by
  have:=(h j k hk).2 y (by
   rw [dF,if_pos (by omega),FT,F1,hL];simp [hy])
  exact jN this (h1 y hy)
 have hi:∀j k,keys[j]?=some k→A.length≤j→ai sep k<0:=fun j k hk hj=>by
  have:=(h j k hk).1 z (by
   rw [dI,if_neg (by omega),FT,F1,hL];simp [hz])
  exact jN (h2 z hz) this
 have hA:∀x∈A.flatMap Kid.L,ai x.1 sep<0:=fun x hx=>by
  by_cases h0:A.length=0
  ·have:A = []:=F7.1 h0
   subst this;simp at hx
  ·obtain⟨k,hk⟩:∃k,keys[A.length-1]?=some k:=⟨_,FP (by omega)⟩
   have:=(h _ k hk).1 x (by
    rw [dI,if_pos (by omega),FS (by omega)];exact hx)
   exact fC this (lo _ k hk (by omega))
 have hB:∀x∈Bs.flatMap Kid.L,ai sep x.1≤0:=fun x hx=>by
  by_cases h0:Bs.length=0
  ·have:Bs = []:=F7.1 h0
   subst this;simp at hx
  ·obtain⟨k,hk⟩:∃k,keys[A.length]?=some k:=⟨_,FP (by omega)⟩
   have:=(h _ k hk).2 x (by
    rw [dF,if_neg (by omega),show A.length+1-A.length-1=0 by omega,List.drop_zero];exact hx)
   have h3:=hi _ k hk (Gn _);have:=jI h3 this;omega
 refine⟨fun j k hk=>?_,?_⟩
 ·rw [oe _ _ _ (by omega)]at hk
  have e3:A++k1::k2::Bs=(A ++ [k1])++k2::Bs:=by simp
  by_cases hj:j<A.length
  ·rw [if_pos hj]at hk
   obtain⟨g1,g2⟩:=h j k hk;rw [dI,if_pos (by omega)]at g1 ⊢;rw [dF,if_pos (by omega)]at g2 ⊢;refine⟨g1,fun x hx=>g2 x ?_⟩;simp only [FT,F1,hL,F2]at hx ⊢;rcases hx with hx|hx|hx|hx
   ·exact .inl hx
   ·exact .inr (.inl (.inl hx))
   ·exact .inr (.inl (.inr hx))
   ·exact .inr (.inr hx)
  ·rw [if_neg hj]at hk
   by_cases hj2:j=A.length
   ·subst hj2
    rw [if_pos rfl]at hk;cases hk;rw [dI,if_neg (by omega),dF,if_neg (by omega),show A.length+1-A.length-1=0 by omega];refine⟨fun x hx=>?_,fun x hx=>?_⟩
    ·simp only [List.take_zero,FT,F1,List.flatMap_nil,List.append_nil,F2]at hx
     exact hx.elim (hA x) (h1 x)
    ·simp only [List.drop_zero,F1,F2]at hx
     exact hx.elim (h2 x) (hB x)
   ·rw [if_neg hj2]at hk
    obtain⟨g1,g2⟩:=h (j-1) k hk;rw [dI,if_neg (by omega)]at g1;rw [dF,if_neg (by omega)]at g2;rw [e3,dI,if_neg (by simp;omega),dF,if_neg (by simp;omega)];simp only [FR,Gh];rw [show j+1-(A.length+1)-1=j-1+1-A.length-1 by omega];refine⟨fun x hx=>g1 x ?_,g2⟩;simp only [FT,F1,List.flatMap_nil,List.append_nil,hL,F2]at hx ⊢;rcases hx with (hx|hx)|hx|hx
    ·exact .inl hx
    ·exact .inr (.inl (.inl hx))
    ·exact .inr (.inl (.inr hx))
    ·exact .inr (.inr hx)
 ·unfold cJ aT
  have hlt:∀a∈keys.take A.length,ai a sep<0:=fun a ha=>by
   obtain⟨j,hj⟩:=List.mem_iff_getElem?.1 ha;rw [List.getElem?_take]at hj;split at hj
   ·rename_i hlt;exact lo j a hj hlt
   ·cases hj
  have hgt:∀a∈keys.drop A.length,ai sep a<0:=fun a ha=>by
   obtain⟨j,hj⟩:=List.mem_iff_getElem?.1 ha;rw [List.getElem?_drop]at hj;exact hi _ a hj (by omega)
  rw [List.pairwise_append,List.pairwise_cons];refine⟨hs.sublist (List.take_sublist _ _),⟨hgt,hs.sublist (List.drop_sublist _ _)⟩,fun a ha b hb=>?_⟩;rcases Gl.1 hb with rfl|hb
  ·exact hlt a ha
  ·exact fC (hlt a ha) (hgt b hb)
theorem Seps.take {keys:List Val}{cs:List Kid}(h:Seps keys cs)(n:Nat):Seps (keys.take n) (cs.take (n+1)):=by
 intro j k hk;rw [List.getElem?_take]at hk;split at hk
 ·rename_i hj
  obtain⟨h1,h2⟩:=h j k hk;rw [List.take_take,show min (j+1) (n+1)=j+1 by omega];refine⟨h1,fun x hx=>h2 x ?_⟩;rw [List.drop_take]at hx;obtain⟨c,hc,hx⟩:=Gi.1 hx;exact Gi.2 ⟨c,Gf hc,hx⟩
 ·cases hk
theorem Seps.drop {keys:List Val}{cs:List Kid}(h:Seps keys cs)(n:Nat):Seps (keys.drop n) (cs.drop n):=by
 intro j k hk;rw [List.getElem?_drop]at hk;obtain⟨h1,h2⟩:=h (n+j) k hk;refine⟨fun x hx=>h1 x ?_,fun x hx=>h2 x ?_⟩
 ·rw [List.take_drop]at hx
  obtain⟨c,hc,hx⟩:=Gi.1 hx;exact Gi.2 ⟨c,by rw [show n+j+1=n+(j+1) by omega];exact Gd hc,hx⟩
 ·rw [List.drop_drop]at hx
  rw [show n+j+1=n+(j+1) by omega];exact hx
abbrev bh (L:PL):Prop:=L.Pairwise (fun a b=>ai a.1 b.1<0)
def fW (L:PL):Prop:=∀p∈L,am p.1=true
def cL (L:PL)(k:Val):Bool:=L.any (fun p=>decide (ai p.1 k=0))
def dC (L:PL)(k:Val)(v:VT):PL:=L.filter (fun p=>decide (ai p.1 k<0))++(k,v)::L.filter (fun p=>decide (0<ai p.1 k))
theorem ml {α:Type}{p:α→Bool}{l:List α}(h:∀x∈l,p x=true):l.filter p=l:=List.filter_eq_self.2 h
theorem dG {α:Type}{p:α→Bool}{l:List α}(h:∀x∈l,p x=false):l.filter p = []:=List.filter_eq_nil_iff.2 (fun x hx=>by rw [h x hx];simp)
theorem qU {A M Bs:PL}{k:Val}{v:VT}(hA:∀x∈A,ai x.1 k<0)(hB:∀x∈Bs,ai k x.1<0):dC (A++M++Bs) k v=A++dC M k v++Bs:=by
 have hB':∀x∈Bs,0<ai x.1 k:=fun x hx=>(eN _ _).2 (hB x hx);unfold dC;simp only [List.filter_append];rw [ml (l:=A) (fun x hx=>by simpa using hA x hx),dG (l:=A) (fun x hx=>by have:=hA x hx;simp;omega),dG (l:=Bs) (fun x hx=>by have:=hB' x hx;simp;omega),ml (l:=Bs) (fun x hx=>by simpa using hB' x hx)];simp
theorem jS {A M Bs:PL}{k:Val}(hA:∀x∈A,ai x.1 k<0)(hB:∀x∈Bs,ai k x.1<0):cL (A++M++Bs) k=cL M k:=by
 unfold cL;rw [List.any_append,List.any_append];have h1:A.any (fun p=>decide (ai p.1 k=0))=false:=List.any_eq_false.2 (fun x hx=>by have:=hA x hx;simp;omega);have h2:Bs.any (fun p=>decide (ai p.1 k=0))=false:=List.any_eq_false.2 (fun x hx=>by have:=(eN _ _).2 (hB x hx);simp;omega);rw [h1,h2];simp
theorem lz {A Bs M:PL}{k:Val}{v:VT}(hA:∀x∈A,ai x.1 k<0)(hM:∀x∈M,ai x.1 k=0)(hB:∀x∈Bs,ai k x.1<0):dC (A++M++Bs) k v=A++(k,v)::Bs:=by
 rw [qU hA hB];unfold dC;rw [dG (l:=M) (fun x hx=>by have:=hM x hx;simp;omega),dG (l:=M) (fun x hx=>by have:=hM x hx;simp;omega)];simp
theorem pO {L:PL}{k:Val}{v:VT}{x:Val×VT}(h:x∈dC L k v):x=(k,v)∨x∈L:=by
 unfold dC at h;rcases F2.1 h with h|h
 ·exact .inr (List.mem_filter.1 h).1
 ·rcases Gl.1 h with h|h
  ·exact .inl h
  ·exact .inr (List.mem_filter.1 h).1
theorem iI {L:PL}{k:Val}{v:VT}(h:bh L):bh (dC L k v):=by
 unfold dC bh;rw [List.pairwise_append,List.pairwise_cons];refine⟨List.Pairwise.filter _ h,⟨fun a ha=>?_,List.Pairwise.filter _ h⟩,fun a ha b hb=>?_⟩
 ·have:=(List.mem_filter.1 ha).2
  exact(eN _ _).1 (by simpa using this)
 ·have h1:ai a.1 k<0:=by simpa using (List.mem_filter.1 ha).2
  rcases Gl.1 hb with rfl|hb
  ·exact h1
  ·have h2:ai k b.1<0:=(eN _ _).1 (by simpa using (List.mem_filter.1 hb).2)
   exact fC h1 h2
theorem rS {L:PL}{k:Val}{v:VT}(hk:am k=true)(h:fW L):fW (dC L k v):=fun x hx=>by
 rcases pO hx with rfl|hx
 ·exact hk
 ·exact h x hx
theorem sR {α β:Type}:∀(xs:List α) (ys:List β) (i:Nat) (x:α) (y:β),xs[i]?=some x→(xs.zip (ys.set i y))=(xs.zip ys).set i (x,y)
 | [],_,_,_,_,h=>by simp at h
 | _::_,[],_,_,_,_=>by simp
 | a::xs,b::ys,0,x,y,h=>by simp at h;subst h;simp
 | a::xs,b::ys,i+1,x,y,h=>by simp [sR xs ys i x y (by simpa using h)]
theorem iK {α β:Type}:∀(xs:List α) (ys:List β) (n:Nat),(xs.take n).zip (ys.take n)=(xs.zip ys).take n
 | _,_,0=>by simp
 | [],_,_+1=>by simp
 | _::_,[],_+1=>by simp
 | a::xs,b::ys,n+1=>by simp [iK xs ys n]
theorem iE {α β:Type}:∀(xs:List α) (ys:List β) (n:Nat),(xs.drop n).zip (ys.drop n)=(xs.zip ys).drop n
 | _,_,0=>by simp
 | [],_,_+1=>by simp
 | _::_,[],_+1=>by simp
 | a::xs,b::ys,n+1=>by simp [iE xs ys n]
theorem tY {α β:Type}(xs:List α)(ys:List β)(n:Nat)(x:α)(y:β)(h:ys.length=xs.length):(aT xs n x).zip (aT ys n y)=(xs.zip ys).take n++(x,y)::(xs.zip ys).drop n:=by
 unfold aT;rw [List.zip_append (by simp [h]),List.zip_cons_cons,iK,iE]
theorem vy {xs:List Val}{ys:List VT}(h:ys.length=xs.length):(xs.zip ys).map Prod.fst=xs:=List.map_fst_zip (by omega)
theorem eQ {xs:List Val}{ys:List VT}{j:Nat}{p:Val×VT}(h:(xs.zip ys)[j]?=some p):xs[j]?=some p.1:=(List.getElem?_zip_eq_some.1 h).1
theorem eO {xs:List Val}{ys:List VT}(hl:ys.length=xs.length)(h:bh (xs.zip ys)):cJ xs:=by
 rw [←vy hl];exact List.pairwise_map.2 h
theorem eF {α:Type}{l:List α}{n:Nat}{P:α→Prop}(h:∀j x,l[j]?=some x→j<n→P x):∀x∈l.take n,P x:=fun x hx=>by
 obtain⟨j,hj⟩:=List.mem_iff_getElem?.1 hx;rw [List.getElem?_take]at hj;split at hj
 ·exact h j x hj (by assumption)
 ·cases hj
theorem eE {α:Type}{l:List α}{n:Nat}{P:α→Prop}(h:∀j x,l[j]?=some x→n≤j→P x):∀x∈l.drop n,P x:=fun x hx=>by
 obtain⟨j,hj⟩:=List.mem_iff_getElem?.1 hx;rw [List.getElem?_drop]at hj;exact h _ x hj (by omega)
theorem qW {xs:List Val}{ys:List VT}{k:Val}{v:VT}(hl:ys.length=xs.length)(hs:bh (xs.zip ys))(hr:fW (xs.zip ys))(hk:am k=true)(h:dW xs k=true) :
  xs.zip (ys.set (bg xs k) v)=dC (xs.zip ys) k v∧cL (xs.zip ys) k=true:=by
 have hsk:=eO hl hs;obtain⟨x,hx,hx0⟩:=(gn (ks:=xs) k).1 h;have hlt:=(FO.1 hx).1;obtain⟨y,hy⟩:∃y,ys[bg xs k]?=some y:=⟨_,FP (by omega)⟩;have hz:(xs.zip ys)[bg xs k]?=some (x,y):=List.getElem?_zip_eq_some.2 ⟨hx,hy⟩;obtain rfl:x=k:=jm (hr _ (FQ hz)) hk hx0;have hzl:bg xs x<(xs.zip ys).length:=(FO.1 hz).1;have e1:xs.zip ys=(xs.zip ys).take (bg xs x) ++ [(x,y)]++(xs.zip ys).drop (bg xs x+1):=by
  have:=Gj (bg xs x) (xs.zip ys);rw [List.drop_eq_getElem_cons hzl]at this;rw [FP hzl]at hz;rw [Option.some.inj hz]at this;rw [FU];exact this.symm
 have hA:∀p∈(xs.zip ys).take (bg xs x),ai p.1 x<0:=eF (fun j p hj hlt=>(go x hsk j p.1 (eQ hj)).1 hlt);have hB:∀p∈(xs.zip ys).drop (bg xs x+1),ai x p.1<0:=eE (fun j p hj hge=>by
  have h1:=eQ hj;have hjl:=(FO.1 h1).1;have:=List.pairwise_iff_getElem.1 hsk (bg xs x) j hlt hjl (by omega);rw [FP hlt]at hx;rw [FP hjl]at h1;rw [Option.some.inj hx,Option.some.inj h1]at this;exact this)
 refine⟨?_,?_⟩
 ·rw [sR _ _ _ _ _ hx]
  conv=>rhs;rw [e1]
  rw [lz hA (fun p hp=>by simp at hp;subst hp;exact dd _) hB,List.set_eq_take_append_cons_drop,if_pos hzl]
 ·unfold cL
  exact List.any_eq_true.2 ⟨_,FQ hz,by simp [dd]⟩
theorem jx {xs:List Val}{ys:List VT}{k:Val}{v:VT}(hl:ys.length=xs.length)(hs:bh (xs.zip ys))(h:dW xs k=false) :
  (aT xs (bg xs k) k).zip (aT ys (bg xs k) v)=dC (xs.zip ys) k v∧cL (xs.zip ys) k=false:=by
 have hsk:=eO hl hs;have hA:∀p∈(xs.zip ys).take (bg xs k),ai p.1 k<0:=eF (fun j p hj hlt=>(go k hsk j p.1 (eQ hj)).1 hlt);have hB:∀p∈(xs.zip ys).drop (bg xs k),ai k p.1<0:=eE (fun j p hj hge=>by
  have h1:=eQ hj;have h2:¬ai p.1 k<0:=fun hc=>by have:=(go k hsk j p.1 h1).2 hc;omega
  have h3:¬j<bu xs k:=by unfold bu;rw [h];simp;omega
  have h4:¬ai p.1 k≤0:=fun hc=>h3 ((iA k hsk j p.1 h1).2 hc);exact(eN _ _).1 (by omega))
 have e1:xs.zip ys=(xs.zip ys).take (bg xs k) ++ []++(xs.zip ys).drop (bg xs k):=by simp
 refine⟨?_,?_⟩
 ·rw [tY _ _ _ _ _ hl]
  conv=>rhs;rw [e1]
  rw [lz hA (fun p hp=>by simp at hp) hB]
 ·rw [e1,jS hA hB];rfl
theorem lO {T:TM}{b:Bool}{xs:List Nat}(hp:(xs++T.free).Perm (List.range T.nodes.length)) :
  ((T.slot b).1::xs++(T.slot b).2.free).Perm (List.range (T.slot b).2.nodes.length)∧(∀x∈xs,(T.slot b).2.nodes[x]?=T.nodes[x]?)∧(T.slot b).1 ∉ xs∧(T.slot b).2.nodes.length≤T.nodes.length+1∧((T.slot b).2.nodes.length=T.nodes.length∨(T.slot b).2.free = [])∧(∀x,T.free.getLast?=some x→x<T.nodes.length∧x ∉ xs)∧(T.slot b).1<(T.slot b).2.nodes.length∧T.free.length≤T.nodes.length∧(∀x∈xs,x<T.nodes.length):=by
 have hmem:∀x∈xs++T.free,x<T.nodes.length:=fun x hx=>List.mem_range.1 (hp.mem_iff.1 hx);have hnd:(xs++T.free).Nodup:=hp.nodup_iff.2 List.nodup_range;have hfl:T.free.length≤T.nodes.length:=by
  have:=hp.length_eq;simp at this;omega
 have hlast:∀x,T.free.getLast?=some x→x<T.nodes.length∧x ∉ xs:=fun x hx=>by
  have hm:x∈T.free:=List.mem_of_getLast? hx;exact⟨hmem x (F2.2 (.inr hm)),fun hxs=>(List.nodup_append.1 hnd).2.2 x hxs x hm rfl⟩
 refine⟨?_,?_,?_,?_,?_,hlast,?_,hfl,fun x hx=>hmem x (F2.2 (.inl hx))⟩
 all_goals unfold TM.slot
 all_goals split
 ·rename_i x hx
  have e:T.free=T.free.dropLast ++ [x]:=by
   have hne:T.free≠[]:=fun h=>by rw [h]at hx;cases hx
   rw [List.getLast?_eq_some_getLast hne]at hx;rw [←Option.some.inj hx];exact(List.dropLast_concat_getLast hne).symm
  dsimp only;rw [FV];refine List.Perm.trans ?_ hp;rw [List.perm_iff_count];intro a
  conv=>rhs;rw [e]
  simp only [List.cons_append,List.count_append,List.count_cons,List.count_nil];omega
 ·rename_i hx
  have e:T.free = []:=List.getLast?_eq_none_iff.1 hx;dsimp only;rw [e]at hp ⊢;rw [List.append_nil]at hp ⊢;rw [FR,Gh,List.range_succ];exact(List.Perm.cons _ hp).trans (List.perm_append_singleton _ _).symm
 ·rename_i x hx
  intro y hy;dsimp only;rw [F8 (fun e=>(hlast x hx).2 (by rw [e];exact hy))]
 ·intro y hy
  dsimp only;rw [Gm (hmem y (F2.2 (.inl hy)))]
 ·rename_i x hx;exact(hlast x hx).2
 ·intro hx
  have:=hmem _ (F2.2 (.inl hx));dsimp only at this;omega
 ·dsimp only;rw [FV];omega
 ·dsimp only;rw [FR];simp
 ·exact .inl (by dsimp only;rw [FV])
 ·rename_i hx
  exact .inr (List.getLast?_eq_none_iff.1 hx)
 ·rename_i x hx;dsimp only;rw [FV];exact(hlast x hx).1
 ·dsimp only;simp
theorem tB {nodes:List NodeM}{d kid:Nat}{L1:PL}{ids1:List Nat}{mk:NodeM}(hR:Rep nodes d kid L1 ids1)(hmk:nodes[kid]?=some mk)(hz:mk.size=5)(hs:bh L1)(hnd:ids1.Nodup) :
  ∃sep l1 l2 idlo idhi,mk.keys[mk.keys.length / 2]?=some sep∧L1=l1++l2∧(∀x∈l1,ai x.1 sep<0)∧(∀x∈l2,ai sep x.1≤0)∧l1≠[]∧l2≠[]∧3≤mk.keys.length∧mk.keys.length≤1000 ∧
   (mk.leaf=true→mk.vals.length=mk.keys.length)∧(mk.leaf=false→mk.kids.length=mk.keys.length+1) ∧
   (∀nodes' nw,nodes'[kid]?=some mk.lo→nodes'[nw]?=some mk.hi→(∀x∈ids1,x≠kid→nodes'[x]?=nodes[x]?)→Rep nodes' d kid l1 (kid::idlo)∧Rep nodes' d nw l2 (nw::idhi)) ∧
   ids1=kid::(idlo++idhi)∧mk.lo.size=(if mk.leaf then 2 else 3)∧mk.hi.size=(if mk.leaf then 3 else 2):=by
 cases d with
 | zero =>
  obtain⟨m,hm,h1,h2,h3,h4,h5⟩:=hR;rw [hmk]at hm;cases hm;have hkl:mk.keys.length=5:=by unfold NodeM.size at hz;rw [h1,if_pos rfl]at hz;exact hz
  have hsk:cJ mk.keys:=eO h3 (h4▸hs);obtain⟨sep,hsep⟩:∃sep,mk.keys[2]?=some sep:=⟨_,FP (by omega)⟩;have hzl:(mk.keys.zip mk.vals).length=5:=by rw [List.length_zip,h3,hkl];rfl
  have h2l:(2:Nat)<mk.keys.length:=by omega
  refine⟨sep,(mk.keys.zip mk.vals).take 2,(mk.keys.zip mk.vals).drop 2,[],[],by rw [hkl];exact hsep,by rw [h4,Gj],?_,?_,?_,?_,by omega,by omega,fun _=>h3,fun h=>(by rw [h1]at h;cases h),?_,by rw [h5];rfl,?_,?_⟩
  ·refine eF (fun j p hj hlt=>?_)
   have hg:=eQ hj;have hjl:=(FO.1 hg).1;have:=List.pairwise_iff_getElem.1 hsk j 2 hjl h2l hlt;rw [FP h2l]at hsep;rw [FP hjl]at hg;rw [Option.some.inj hsep,Option.some.inj hg]at this;exact this
  ·refine eE (fun j p hj hge=>?_)
   have hg:=eQ hj;have hjl:=(FO.1 hg).1;rw [FP h2l]at hsep;by_cases he:j=2
   ·subst he
    rw [FP h2l,hsep]at hg;rw [Option.some.inj hg,dd];exact Int.le_refl _
   ·have:=List.pairwise_iff_getElem.1 hsk 2 j h2l hjl (by omega)
    rw [FP hjl]at hg;rw [Option.some.inj hsep,Option.some.inj hg]at this;omega
  ·intro e;have:=congrArg List.length e;rw [F0,hzl]at this;simp at this
  ·intro e;have:=congrArg List.length e;rw [Ga,hzl]at this;simp at this
  ·intro nodes' nw hlo hhi _
   have hl5:mk.vals.length=5:=by omega
   refine⟨⟨mk.lo,hlo,?_⟩,⟨mk.hi,hhi,?_⟩⟩
   ·simp only [NodeM.lo,h1,if_true,hkl]
    exact⟨by trivial,h2,by rw [F0,F0,hkl,hl5],by rw [iK],by trivial⟩
   ·simp only [NodeM.hi,h1,if_true,hkl]
    exact⟨by trivial,by trivial,by rw [Ga,Ga,hkl,hl5],by rw [iE],by trivial⟩
  ·simp [NodeM.size,NodeM.lo,h1,hkl]
  ·simp [NodeM.size,NodeM.hi,h1,hkl]
 | succ d =>
  obtain⟨m,hm,h1,h2,cs,h3,h4,h5,h6,h7,h8,h9⟩:=hR;rw [hmk]at hm;cases hm;have hkid5:mk.kids.length=5:=by unfold NodeM.size at hz;rw [h1]at hz;simpa using hz
  have hcl:cs.length=5:=by rw [h3,FZ]at hkid5;exact hkid5
  have hkl:mk.keys.length=4:=by omega
  obtain⟨sep,hsep⟩:∃sep,mk.keys[2]?=some sep:=⟨_,FP (by omega)⟩;obtain⟨g1,g2⟩:=h6 2 sep hsep;have hne:∀c∈cs,c.L≠[]:=fun c hc=>by
   obtain⟨hr,m',hm',hf,_⟩:=h5 c hc;exact hr.some ⟨m',hm',by omega⟩
  have some_of:∀l:List Kid,l≠[]→(∀c∈l,c∈cs)→l.flatMap Kid.L≠[]:=fun l hl hsub e=>by
   obtain⟨c,hc⟩:=List.exists_mem_of_ne_nil _ hl;obtain⟨y,hy⟩:=List.exists_mem_of_ne_nil _ (hne c (hsub c hc));have:y∈l.flatMap Kid.L:=Gi.2 ⟨c,hc,hy⟩;rw [e]at this;cases this
  rw [h9]at hnd;obtain⟨hnk,_⟩:=List.nodup_cons.1 hnd;refine⟨sep,(cs.take 3).flatMap Kid.L,(cs.drop 3).flatMap Kid.L,(cs.take 3).flatMap Kid.ids,(cs.drop 3).flatMap Kid.ids,by rw [hkl];exact hsep,?_,g1,g2,?_,?_,by omega,by omega,fun h=>(by rw [h1]at h;cases h),fun _=>by omega,?_,?_,?_,?_⟩
  ·rw [h8,←FT,Gj]
  ·exact some_of _ (fun e=>by have:=congrArg List.length e;rw [F0,hcl]at this;simp at this) (fun c hc=>Gf hc)
  ·exact some_of _ (fun e=>by have:=congrArg List.length e;rw [Ga,hcl]at this;simp at this) (fun c hc=>Gd hc)
  ·intro nodes' nw hlo hhi hf
   have hf':∀c∈cs,Rep nodes' d c.id c.L c.ids∧Fit nodes' c.id:=fun c hc=>by
    have hsub:∀x∈c.ids,nodes'[x]?=nodes[x]?:=fun x hx=>by
     have hm:x∈cs.flatMap Kid.ids:=Gi.2 ⟨c,hc,hx⟩;exact hf x (by rw [h9];exact F4 _ hm) (fun e=>hnk (e▸hm))
    obtain⟨hr,hfi⟩:=h5 c hc;exact⟨hr.frame hsub,hfi.frame (hsub _ hr.self)⟩
   refine⟨⟨mk.lo,hlo,?_⟩,⟨mk.hi,hhi,?_⟩⟩
   ·simp only [NodeM.lo,h1,hkl]
    refine⟨by trivial,h2,cs.take 3,by rw [h3,List.map_take];rfl,?_,fun c hc=>hf' c (Gf hc),h6.take 2,h7.sublist (List.take_sublist _ _),rfl,rfl⟩;simp [hkl,hcl]
   ·simp only [NodeM.hi,h1,hkl]
    refine⟨by trivial,by trivial,cs.drop 3,by rw [h3,List.map_drop];rfl,?_,fun c hc=>hf' c (Gd hc),h6.drop 3,h7.sublist (List.drop_sublist _ _),rfl,rfl⟩;simp [hkl,hcl]
  ·rw [h9,←FT,Gj]
  ·simp [NodeM.size,NodeM.lo,h1,hkl,hkid5]
  ·simp [NodeM.size,NodeM.hi,h1,hkl,hkid5]
theorem nH {T:TM}{d i:Nat}{m mk:NodeM}{A Bs:List Kid}{c1:Kid}{ctx:List Nat}(hi:T.nodes[i]?=some m)(hl:m.leaf=false)(hv:m.vals = [])(hk:m.kids=(A++c1::Bs).map Kid.id)(hlen:(A++c1::Bs).length=m.keys.length+1)
  (hA:∀c∈A++Bs,Rep T.nodes d c.id c.L c.ids∧Fit T.nodes c.id) (h1:Rep T.nodes d c1.id c1.L c1.ids) (hmk:T.nodes[c1.id]?=some mk) (hz:mk.size=5) (hse:Seps m.keys (A++c1::Bs)) (hsk:cJ m.keys) (hsL:bh c1.L)
  (hp:((i::(A++c1::Bs).flatMap Kid.ids)++ctx++T.free).Perm (List.range T.nodes.length)) (hbig:T.nodes.length≤1000000) (hkb:m.keys.length≤1000) :
  ∃T3 ids3 m3,T.Split i A.length T3∧Rep T3.nodes (d+1) i ((A++c1::Bs).flatMap Kid.L) ids3∧(ids3++ctx++T3.free).Perm (List.range T3.nodes.length)∧(∀x∈ctx,T3.nodes[x]?=T.nodes[x]?)∧T3.nodes[i]?=some m3∧m3.leaf=false∧m3.size=m.size+1 ∧
   T3.nodes.length≤T.nodes.length+1∧(T3.nodes.length=T.nodes.length∨T3.free = [])∧T3.k=T.k:=by
 obtain⟨q1,q2,q3,q4,q5,q6,q7,q8,q9⟩:=lO (b:=mk.leaf) hp;have hnd:((i::(A++c1::Bs).flatMap Kid.ids)++ctx++T.free).Nodup:=hp.nodup_iff.2 List.nodup_range;obtain⟨hnd0,_,hnd4⟩:=List.nodup_append.1 hnd;obtain⟨hnd1,_,hnd3⟩:=List.nodup_append.1 hnd0;obtain⟨hni,hnd2⟩:=List.nodup_cons.1 hnd1;rw [FT,F1]at hnd2 hni;have hnc1:c1.ids.Nodup:=(List.nodup_append.1 (List.nodup_append.1 hnd2).2.1).1;obtain⟨sep,l1,l2,idlo,idhi,hsep,hL,hl1,hl2,hn1,hn2,hk3,hkb2,hlv,hlk,hre,hids,hslo,hshi⟩:=tB h1 hmk hz hsL hnc1;obtain⟨nw,T2,hsl⟩:∃nw T2,T.slot mk.leaf=(nw,T2):=⟨_,_,rfl⟩;have hkm:c1.id∈c1.ids:=h1.self;have hik:i≠c1.id:=fun e=>hni (by rw [e];exact F2.2 (.inr (F2.2 (.inl hkm))));rw [hsl]at q1 q2 q3 q4 q5 q7;dsimp only at q1 q2 q3 q4 q5 q7;have hT2k:T2.k=T.k:=by have:=j9 T mk.leaf;rw [hsl]at this;exact this
 have hmemall:∀c∈A++c1::Bs,∀x∈c.ids,x∈(i::(A++c1::Bs).flatMap Kid.ids)++ctx:=fun c hc x hx=>F2.2 (.inl (F4 _ (Gi.2 ⟨c,hc,hx⟩)));have hmi:i∈(i::(A++c1::Bs).flatMap Kid.ids)++ctx:=F2.2 (.inl (Gc ..));have hmk1:c1.id∈(i::(A++c1::Bs).flatMap Kid.ids)++ctx:=hmemall c1 (by simp) _ hkm;have hnwi:nw≠i:=fun e=>q3 (by rw [e];exact hmi);have hnwk:nw≠c1.id:=fun e=>q3 (by rw [e];exact hmk1);have hsz:∀x∈(i::(A++c1::Bs).flatMap Kid.ids)++ctx,x<T2.nodes.length:=fun x hx=>by
  have:=q1.mem_iff.1 (F2.2 (.inl (F4 nw hx)));exact List.mem_range.1 this
 have hn3:∀x,(T2.spl nw i c1.id A.length m mk sep).nodes[x]?=if i=x then some { m with keys:=aT m.keys A.length sep,kids:=aT m.kids (A.length+1) nw } else if c1.id=x then some mk.lo else if nw=x then some mk.hi else T2.nodes[x]?:=by
  intro x;unfold TM.spl;dsimp only;rw [List.getElem?_set,FV,FV];by_cases e1:i=x
  ·rw [if_pos e1,if_pos e1,if_pos (hsz i hmi)]
  ·rw [if_neg e1,if_neg e1,List.getElem?_set,FV]
   by_cases e2:c1.id=x
   ·rw [if_pos e2,if_pos e2,if_pos (hsz _ hmk1)]
   ·rw [if_neg e2,if_neg e2,List.getElem?_set]
    by_cases e3:nw=x
    ·rw [if_pos e3,if_pos e3,if_pos q7]
    ·rw [if_neg e3,if_neg e3]
 have hold:∀x∈(i::(A++c1::Bs).flatMap Kid.ids)++ctx,x≠i→x≠c1.id→(T2.spl nw i c1.id A.length m mk sep).nodes[x]?=T.nodes[x]?:=fun x hx h1 h2=>by
  rw [hn3,if_neg (Ne.symm h1),if_neg (Ne.symm h2),if_neg (fun e=>q3 (by rw [e];exact hx)),q2 x hx]
 obtain⟨r1,r2⟩:=hre (T2.spl nw i c1.id A.length m mk sep).nodes nw (by rw [hn3,if_neg hik,if_pos rfl]) (by rw [hn3,if_neg (Ne.symm hnwi),if_neg (Ne.symm hnwk),if_pos rfl]) (fun x hx hne=>by
  refine hold x (hmemall c1 (by simp) x hx) (fun e=>hni ?_) hne;rw [←e];exact F2.2 (.inr (F2.2 (.inl hx))))
 have hcA:m.kids[A.length]?=some c1.id:=by rw [hk,Gg,Gb (Gn _),Nat.sub_self];rfl
 simp only [FR,List.length_cons]at hlen;obtain⟨se1,se2⟩:=Seps.split (k1:=⟨c1.id,l1,c1.id::idlo⟩) (k2:=⟨nw,l2,nw::idhi⟩) (sep:=sep) (by simp;omega) hse hsk hL hl1 hl2 hn1 hn2;have hfit1:Fit (T2.spl nw i c1.id A.length m mk sep).nodes c1.id:=⟨mk.lo,by rw [hn3,if_neg hik,if_pos rfl],by rw [hslo];split<;>omega,by rw [hslo];split<;>omega⟩;have hfit2:Fit (T2.spl nw i c1.id A.length m mk sep).nodes nw:=⟨mk.hi,by rw [hn3,if_neg (Ne.symm hnwi),if_neg (Ne.symm hnwk),if_pos rfl],by rw [hshi];split<;>omega,by rw [hshi];split<;>omega⟩;have hothers:∀c∈A++Bs,Rep (T2.spl nw i c1.id A.length m mk sep).nodes d c.id c.L c.ids∧Fit (T2.spl nw i c1.id A.length m mk sep).nodes c.id:=fun c hc=>by
  have hcm:c∈A++c1::Bs:=by rcases F2.1 hc with h|h<;>simp [h]
  have hsub:∀x∈c.ids,(T2.spl nw i c1.id A.length m mk sep).nodes[x]?=T.nodes[x]?:=fun x hx=>by
   refine hold x (hmemall c hcm x hx) (fun e=>hni ?_) (fun e=>?_)
   ·rw [←e,←F1,←FT];exact Gi.2 ⟨c,hcm,hx⟩
   ·subst e
    obtain⟨u1,u2,u3⟩:=List.nodup_append.1 hnd2;obtain⟨v1,v2,v3⟩:=List.nodup_append.1 u2;rcases F2.1 hc with h|h
    ·exact u3 _ (Gi.2 ⟨c,h,hx⟩) _ (F2.2 (.inl hkm)) rfl
    ·exact v3 _ hkm _ (Gi.2 ⟨c,h,hx⟩) rfl
  obtain⟨hr,hf⟩:=hA c hc;exact⟨hr.frame hsub,hf.frame (hsub _ hr.self)⟩
 refine⟨T2.spl nw i c1.id A.length m mk sep,i::(A++⟨c1.id,l1,c1.id::idlo⟩::⟨nw,l2,nw::idhi⟩::Bs).flatMap Kid.ids,{ m with keys:=aT m.keys A.length sep,kids:=aT m.kids (A.length+1) nw },?_,?_,?_,?_,by rw [hn3,if_pos rfl],hl,?_,?_,?_,?_⟩
 ·refine⟨m,c1.id,mk,sep,hi,hcA,hmk,hsep,⟨hik,fun x hx=>⟨(q6 x hx).1,fun e=>(q6 x hx).2 (by rw [e];exact hmi),fun e=>(q6 x hx).2 (by rw [e];exact hmk1)⟩,hbig,by omega,hkb2,by omega,by rw [hk,FZ];simp;omega,hkb,hk3,hlv,hlk⟩,by rw [hsl]⟩
 ·refine⟨{ m with keys:=aT m.keys A.length sep,kids:=aT m.kids (A.length+1) nw },by rw [hn3,if_pos rfl],hl,hv,A++⟨c1.id,l1,c1.id::idlo⟩::⟨nw,l2,nw::idhi⟩::Bs,?_,?_,?_,se1,se2,?_,rfl⟩
  ·dsimp only
   unfold aT;rw [hk,List.map_append,List.map_cons];have e1:A.length+1=(A.map Kid.id ++ [c1.id]).length:=by simp
   have e2:A.map Kid.id++c1.id::Bs.map Kid.id=(A.map Kid.id ++ [c1.id])++Bs.map Kid.id:=by simp
   rw [e2,e1,List.take_left,List.drop_left];simp
  ·dsimp only;rw [bQ];simp;omega
  ·intro c hc
   rcases F2.1 hc with h|h
   ·exact hothers c (F2.2 (.inl h))
   ·rcases Gl.1 h with rfl|h
    ·exact⟨r1,hfit1⟩
    ·rcases Gl.1 h with rfl|h
     ·exact⟨r2,hfit2⟩
     ·exact hothers c (F2.2 (.inr h))
  ·simp only [FT,F1,hL,FU]
 ·have hlen3:(T2.spl nw i c1.id A.length m mk sep).nodes.length=T2.nodes.length:=by unfold TM.spl;simp
  have hfree3:(T2.spl nw i c1.id A.length m mk sep).free=T2.free:=rfl;rw [hlen3,hfree3];refine List.Perm.trans ?_ q1;rw [List.perm_iff_count];intro a;simp only [FT,F1,hids,List.cons_append,List.count_append,List.count_cons,FU];omega
 ·intro x hx
  refine hold x (F2.2 (.inr hx)) (fun e=>?_) (fun e=>?_)
  ·exact hnd3 _ (Gc ..) _ hx e.symm
  ·exact hnd3 _ (F4 _ (Gi.2 ⟨c1,by simp,hkm⟩)) _ hx e.symm
 ·unfold NodeM.size
  dsimp only;rw [hl];simp [bQ]
 ·unfold TM.spl;simp;omega
 ·unfold TM.spl;simp;exact q5
 ·unfold TM.spl;exact hT2k
end Go.Proofs.YtdobimafhbfkhaaGreat
