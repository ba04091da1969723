/- Joined texts: The tree: contract of Put. The tree as data: what a node stands for; frames; a split. The tree as data: put. The tree as data: a split. -/
import Derived.Test.YtdobimafhbfkhaaGreatOT21
import Derived.Test.YtdobimafhbfkhaaGreatOT16
set_option maxHeartbeats 64000000
namespace Go.Proofs.YtdobimafhbfkhaaGreat
open Go.ChangeShapes Go.WideShapes Go.ChangeAt Go.RowKit
set_option maxRecDepth 100000
set_option linter.unusedSimpArgs false
theorem rR {B w:World}{D:PH}{t r:Nat}{T T1:TM}{l:List HP}{k:Val}{v:VT}{fr:Bool}{mk:NodeM}(hr:am k=true)(hroot:T.k.root=(r:Int))(hfit:T.k.fit)
  (hp:T.PutR k v r T1 fr) (hk:T1.nodes[r]?=some mk) (hz:mk.size≤4) (h:TreeA B D w t T l) :
  Calls Tryz.prog 92 #[.pointer (some ⟨t,0,none⟩),k.v,v.v] w fun e w'=>e = .returned (.bool fr)∧TreeA B D w' t (T1.more fr) l:=by
 obtain⟨nv,fv,ns,hns,hs⟩:=h
 have hs1:=hs.alloc #[.bool k.t,.int .i64 k.n,.string k.s] tV
 have hkeep:=hp.keep
 obtain⟨f1,f2,f3,f4⟩:=hfit
 have uk:=CM hs1
 have HR:=CM hr
 have HP:=CM (pJ (B:=B) (D:=D) (t:=t) hp)
 have uL:=CM hns
 have HK:=CM hk
 have uq:=CM hkeep
 have uY:=CM hroot
 have hw:IntKind.i64.wrap (T.k.many+1)=T.k.many+1:=bV _ (by omega) (by omega)
 have HW:=CM hw
 clear hs hs1 hr hp hns hk hkeep hw hroot
 dsimp only [Val.v,RowT.v]
 go_enter Tryz.func92,Tryz.ntmps92
 go_upto_region 1 with (fail)
 obtain⟨W,hW,hs2⟩:=uk.out.hide
 rw [←hW]
 clear uk hW
 generalize w.heap.size=bk at hs2 ⊢
 obtain⟨x0,x1,x2,xf⟩:=aT (Sat.blk hs2 4 rfl)
 have ur:=CM hs2
 clear hs2
 go_upto_region 3 with ((go_at_call 32;refine(aK k _).mono ?_;rw [HR.out];rintro e1 w1 ⟨rfl,hk1⟩;have ut:=CM (ur.out.kept hk1);clear hk1 ur x0 x1 x2 xf))
 obtain⟨t0,t1,t2,t3,t4,tf⟩:=ut.out.tcells
 rw [uY.out]at t2
 have hr0:¬((r:Int)<0):=by omega
 obtain⟨x0,x1,x2,xf⟩:=aT (Sat.blk ut.out 4 rfl)
 have yJ:=CM (HP.out w1.drew _ ⟨_,_,_,uL.out,ut.out.drew⟩)
 clear ut HP
 go_upto_region 6 with (fail)
 refine af [(0,false,7),(1,false,7),(2,false,7),(3,false,7),(4,false,7),(5,false,7),(6,false,7),(7,true,0),(8,false,999)] (by kernel_rfl) (by kernel_rfl) ?_
 iterate 7 (refine ae rfl rfl (fun K hK=>?_);go_simp;refine hK _ ?_;clear hK K)
 refine ag rfl ?_
 refine au rfl (fun K hK=>?_)
 go_simp
 refine yJ.out.mono ?_
 clear t0 t1 t2 t3 t4 tf x0 x1 x2 xf hr0
 rintro e6 w6 ⟨rfl,ha6⟩
 have uH:=CM (dC HK.out ha6)
 obtain⟨nv6,fv6,ns6,hns6,hs6⟩:=ha6
 rw [uq.out]at hs6
 obtain⟨t0,t1,t2,t3,t4,tf⟩:=hs6.tcells
 rw [uY.out]at t2
 have uu:=CM hs6
 have xS:=CM hns6
 clear hs6 hns6 yJ
 refine hK _ _ ?_
 clear hK K
 refine wpList_nil ?_
 refine And.intro ?_ ?_
 ·go_simp
 refine ae rfl rfl (fun K hK=>?_);go_simp;refine hK _ ?_;clear hK K
 refine ah ?_
 have hz':¬((mk.size:Int) > 4):=by omega
 go_upto_region 13 with ((go_at_call 109;refine uH.out.mono ?_;rintro e7 w7 ⟨rfl,rfl⟩))
 have hw:=HW.out
 cases fr
 ·go_wp2_with (fail)
  go_ret
  exact⟨rfl,_,_,_,xS.out,by show TreeS _ _ _ _ _ _ _ T1.free T1.k _;rw [uq.out];exact uu.out.drop⟩
 ·go_wp2_with (fail)
  go_ret
  exact⟨rfl,_,_,_,xS.out,by show TreeS _ _ _ _ _ _ _ T1.free { T1.k with many:=T1.k.many+1 } _;rw [uq.out];exact(uu.out.set_many _).drop⟩
def TM.high (T:TM)(top:Nat):TM:={ T with k:={ root:=(top:Int),many:=T.k.many,depth:=T.k.depth+1 } }
theorem qX {B w:World}{D:PH}{t r:Nat}{T T1 T3:TM}{l:List HP}{k:Val}{v:VT}{fr:Bool}{mk:NodeM}(hr:am k=true)(hroot:T.k.root=(r:Int))(hfit:T.k.fit)
  (hp:T.PutR k v r T1 fr) (hk:T1.nodes[r]?=some mk) (hz:4<mk.size) (hsl:T1.maySlot) (hsp:(T1.top r).Split (T1.slot false).1 0 T3) (h:TreeA B D w t T l) :
  Calls Tryz.prog 92 #[.pointer (some ⟨t,0,none⟩),k.v,v.v] w fun e w'=>e = .returned (.bool fr)∧TreeA B D w' t ((T3.high (T1.slot false).1).more fr) l:=by
 obtain⟨nv,fv,ns,hns,hs⟩:=h
 have hs1:=hs.alloc #[.bool k.t,.int .i64 k.n,.string k.s] tV
 have hkeep:=hp.keep
 obtain⟨f1,f2,f3,f4⟩:=hfit
 obtain⟨top,T2,hT2⟩:∃top T2,T1.slot false=(top,T2):=⟨_,_,rfl⟩
 have hSL:∀(w:World) (l:List HP),TreeA B D w t T1 l→_:=fun w l=>j3 false hsl.1 hsl.2.1 hsl.2.2
 have h3k:T3.k=T.k:=by rw [hsp.keep,←hkeep];exact jl T1 false
 have h2k:T2.k=T.k:=by rw [←hkeep];have:=jl T1 false;rw [hT2]at this;exact this
 have hspl:∀(w:World) (l:List HP),TreeA B D w t (T1.top r) l→Calls Tryz.prog 110 #[.pointer (some ⟨t,0,none⟩),.int .i64 (T1.slot false).1,.int .i64 0] w fun e w'=>e = .returned (.tuple #[])∧TreeA B D w' t T3 l:=fun w l=>nT hsp
 have htop:T1.top r = { T2 with nodes:=T2.nodes.set top { aS false with kids:=[r] } }:=by unfold TM.top;rw [hT2]
 have hfm:T2.nodes[top]?=some (aS false):=by
  have e:(T1.slot false).2.nodes[(T1.slot false).1]?=some (aS false):=by
   unfold TM.slot
   split
   ·rename_i x hx
    dsimp only
    rw [List.getElem?_set_self (hsl.1 x hx)]
   ·simp
  rw [hT2]at e
  exact e
 rw [htop]at hspl
 rw [hT2]at hspl hSL ⊢
 have hrlt:=(List.getElem?_eq_some_iff.1 hk).1
 have uk:=CM hs1
 have HR:=CM hr
 have HP:=CM (pJ (B:=B) (D:=D) (t:=t) hp)
 have uL:=CM hns
 have HK:=CM hk
 have uq:=CM hkeep
 have uY:=CM hroot
 have xm:=CM hSL
 have Ae:=CM hspl
 have H2K:=CM h2k
 have H3K:=CM h3k
 have zI:=CM hfm
 have hw:IntKind.i64.wrap (T.k.many+1)=T.k.many+1:=bV _ (by omega) (by omega)
 have HW:=CM hw
 have hwd:IntKind.i64.wrap (T.k.depth+1)=T.k.depth+1:=bV _ (by omega) (by omega)
 have Ch:=CM hwd
 clear hs hs1 hr hp hns hk hkeep hw hwd hroot hSL hspl h2k h3k hfm htop hsp hsl hT2
 dsimp only [Val.v,RowT.v]
 go_enter Tryz.func92,Tryz.ntmps92
 go_upto_region 1 with (fail)
 obtain⟨W,hW,hs2⟩:=uk.out.hide
 rw [←hW]
 clear uk hW
 generalize w.heap.size=bk at hs2 ⊢
 obtain⟨x0,x1,x2,xf⟩:=aT (Sat.blk hs2 4 rfl)
 have ur:=CM hs2
 clear hs2
 go_upto_region 3 with ((go_at_call 32;refine(aK k _).mono ?_;rw [HR.out];rintro e1 w1 ⟨rfl,hk1⟩;have ut:=CM (ur.out.kept hk1);clear hk1 ur x0 x1 x2 xf))
 obtain⟨t0,t1,t2,t3,t4,tf⟩:=ut.out.tcells
 rw [uY.out]at t2
 have hr0:¬((r:Int)<0):=by omega
 obtain⟨x0,x1,x2,xf⟩:=aT (Sat.blk ut.out 4 rfl)
 have yJ:=CM (HP.out w1.drew _ ⟨_,_,_,uL.out,ut.out.drew⟩)
 clear ut HP
 go_upto_region 6 with (fail)
 refine af [(0,false,7),(1,false,7),(2,false,7),(3,false,7),(4,false,7),(5,false,7),(6,false,7),(7,true,0),(8,false,999)] (by kernel_rfl) (by kernel_rfl) ?_
 iterate 7 (refine ae rfl rfl (fun K hK=>?_);go_simp;refine hK _ ?_;clear hK K)
 refine ag rfl ?_
 refine au rfl (fun K hK=>?_)
 go_simp
 refine yJ.out.mono ?_
 clear t0 t1 t2 t3 t4 tf x0 x1 x2 xf hr0
 rintro e6 w6 ⟨rfl,ha6⟩
 have uH:=CM (dC HK.out ha6)
 have BS:=CM (xm.out _ _ ha6)
 obtain⟨nv6,fv6,ns6,hns6,hs6⟩:=ha6
 rw [uq.out]at hs6
 obtain⟨t0,t1,t2,t3,t4,tf⟩:=hs6.tcells
 rw [uY.out]at t2
 clear hs6 hns6 yJ xm
 refine hK _ _ ?_
 clear hK K
 refine wpList_nil ?_
 refine And.intro ?_ ?_
 ·go_simp
 refine ae rfl rfl (fun K hK=>?_);go_simp;refine hK _ ?_;clear hK K
 refine ah ?_
 have hz':((mk.size:Int) > 4):=by omega
 go_upto_region 9 with (first|(go_at_call 109;refine uH.out.mono ?_;rintro e7 w7 ⟨rfl,rfl⟩)|(go_at_call 107;refine BS.out.mono ?_;clear t0 t1 t2 t3 t4 tf;rintro e7 w7 ⟨rfl,nv7,fv7,ns7,hns7,hs7⟩;rw [H2K.out]at hs7;obtain⟨⟨okv,ovv,odv⟩,hpo⟩:=aH hns7 zI.out;obtain⟨g,cn,rfl,_,hcm⟩:=hs7.nv_some (by have:=(List.getElem?_eq_some_iff.1 hpo).1;omega);unfold maxLen at hcm;have hob:(top:Int)<(ns7.length:Int):=(by have:=(List.getElem?_eq_some_iff.1 hpo).1;omega);obtain⟨t0,t1,t2,t3,t4,tf⟩:=hs7.tcells;obtain⟨n0,n1,n2,n3,nf⟩:=hs7.node_cells hpo;rw [uY.out]at t2;dsimp only at n0 n1 n2 n3;have xe:=CM hpo;have vb:=CM hs7;have xT:=CM hns7;clear hs7 hns7 hpo BS))
 refine af [(0,false,12),(1,false,12),(2,false,12),(3,false,12),(4,false,12),(5,false,9),(6,false,9),(7,false,9),(8,false,9),(9,true,0),(10,false,12),(11,false,12),(12,true,0)] (by kernel_rfl) (by kernel_rfl) ?_
 iterate 9 (refine ae rfl rfl (fun K hK=>?_);go_simp;refine hK _ ?_;clear hK K)
 refine ag rfl ?_
 refine wpList_plain rfl (fun K hK=>?_)
 go_simp
 refine hK _ _ ?_
 clear hK K
 refine wpList_nil ?_
 have hs8:=(vb.out.alloc #[.int .i64 (r:Int)] tI).drew
 obtain⟨W8,hW8,hs8⟩:=hs8.hide
 rw [←hW8]
 generalize w7.heap.size=bx at hs8 ⊢
 clear hW8 vb n0 n1 n2 n3 nf t0 t1 t2 t3 t4 tf
 obtain⟨t0,t1,t2,t3,t4,tf⟩:=hs8.tcells
 obtain⟨n0,n1,n2,n3,nf⟩:=hs8.node_cells xe.out
 rw [uY.out]at t2
 dsimp only at n0 n1 n2 n3
 have vB:=CM hs8
 clear hs8
 refine And.intro ?_ ?_
 ·go_simp
 iterate 2 (refine ae rfl rfl (fun K hK=>?_);go_simp;refine hK _ ?_;clear hK K)
 refine ag rfl ?_
 refine wpList_plain rfl (fun K hK=>?_)
 go_simp
 refine hK _ _ ?_
 clear hK K
 refine wpList_nil ?_
 refine And.intro ?_ ?_
 ·go_simp
 refine ah ?_
 go_upto_region 10 with (fail)
 have h8:=Sat.front vB.out 4 rfl
 simp only [List.eraseIdx_cons_succ,List.eraseIdx_cons_zero]at h8
 have h8':=Sat.row_own (size:=1) (n:=1) (cap:=1) (cur:=[.int .i64 (r:Int)]) h8 (by omega) (by unfold maxLen;omega) (by simp) rfl (by intro u hu;simp at hu;subst hu;rfl)
 obtain⟨W9,hW9,hs9⟩:=(TreeS.put_kids (ds:=[r]) xe.out h8').hide
 rw [←hW9]
 clear hW9 vB h8 h8' n0 n1 n2 n3 nf t0 t1 t2 t3 t4 tf
 rw [←H2K.out]at hs9
 have vt:=CM (Ae.out W9 _ ⟨_,_,_,by rw [List.map_set,xT.out],hs9⟩)
 clear hs9 Ae
 have hwd:=Ch.out
 have hw:=HW.out
 go_upto_region 12 with ((go_at_call 110;refine vt.out.mono ?_;rintro e10 w10 ⟨rfl,nv10,fv10,ns10,hns10,hs10⟩;rw [H3K.out]at hs10;obtain⟨t0,t1,t2,t3,t4,tf⟩:=hs10.tcells;have wJ:=CM hs10;have yK:=CM hns10;clear hs10 hns10 vt))
 obtain⟨W11,hW11,hs11⟩:=(wJ.out.set_root top).hide
 rw [←hW11]
 clear hW11 wJ t0 t1 t2 t3 t4 tf
 obtain⟨t0,t1,t2,t3,t4,tf⟩:=hs11.tcells
 have Af:=CM hs11
 clear hs11
 go_upto_region 13 with (fail)
 obtain⟨W12,hW12,hs12⟩:=(Af.out.set_depth (T.k.depth+1)).hide
 rw [←hW12]
 clear hW12 Af t0 t1 t2 t3 t4 tf
 obtain⟨t0,t1,t2,t3,t4,tf⟩:=hs12.tcells
 have xp:=CM hs12
 clear hs12
 cases fr
 ·go_wp2_with (fail)
  go_ret
  exact⟨rfl,_,_,_,yK.out,by rw [show(TM.more (T3.high top) false).k=({ root:=(top:Int),many:=T.k.many,depth:=T.k.depth+1 }:Num) by rw [←H3K.out];rfl];exact xp.out.drop⟩
 ·go_wp2_with (fail)
  go_ret
  exact⟨rfl,_,_,_,yK.out,by rw [show(TM.more (T3.high top) true).k=({ root:=(top:Int),many:=T.k.many+1,depth:=T.k.depth+1 }:Num) by rw [←H3K.out];rfl];exact(xp.out.set_many _).drop⟩
theorem gr {ks:List Val}(k:Val)(h:cw ks):∀i x,ks[i]?=some x→(i<bD ks k↔ak x k≤0):=by
 intro i x hx
 have hs:=fw k h
 unfold bD
 cases hb:dI ks k
 ·simp only [Bool.false_eq_true,if_false,Nat.add_zero]
  rw [hs i x hx]
  constructor
  ·intro h;omega
  ·intro hle
   by_cases hlt:ak x k<0
   ·exact hlt
   ·exfalso
    have h0:ak x k=0:=by omega
    have hi:¬i<bq ks k:=fun h=>hlt ((hs i x hx).1 h)
    have hlen:=(List.getElem?_eq_some_iff.1 hx).1
    obtain⟨y,hy⟩:∃y,ks[bq ks k]?=some y:=⟨_,List.getElem?_eq_getElem (by omega)⟩
    have hny:¬ak y k<0:=fun h=>by have:=(hs _ y hy).2 h;omega
    by_cases he:bq ks k=i
    ·rw [he]at hy
     rw [hx]at hy
     cases hy
     have:=(fl (ks:=ks) k).2 ⟨x,by rw [he];exact hx,h0⟩
     rw [hb]at this;cases this
    ·have hyx:ak y x<0:=by
      have:=List.pairwise_iff_getElem.1 h (bq ks k) i (by omega) hlen (by omega)
      rw [List.getElem?_eq_getElem (by omega)]at hy
      rw [List.getElem?_eq_getElem hlen]at hx
      rw [Option.some.inj hy,Option.some.inj hx]at this
      exact this
     exact hny (i5 hyx (by omega))
 ·simp only [if_true]
  obtain⟨y,hy,hy0⟩:=(fl (ks:=ks) k).1 hb
  by_cases he:i=bq ks k
  ·subst he
   rw [hx]at hy;cases hy
   constructor<;>intro _<;>omega
  ·by_cases hlt:i<bq ks k
   ·have:=(hs i x hx).1 hlt
    constructor<;>intro _<;>omega
   ·have hlen:=(List.getElem?_eq_some_iff.1 hx).1
    have hyx:ak y x<0:=by
     have hl2:=(List.getElem?_eq_some_iff.1 hy).1
     have:=List.pairwise_iff_getElem.1 h (bq ks k) i hl2 hlen (by omega)
     rw [List.getElem?_eq_getElem hl2]at hy
     rw [List.getElem?_eq_getElem hlen]at hx
     rw [Option.some.inj hy,Option.some.inj hx]at this
     exact this
    have:¬ak x k≤0:=fun h=>by have:=i5 hyx h;omega
    constructor<;>intro _<;>omega
abbrev PL := List (Val×VT)
structure Kid where
 id:Nat
 L:PL
 ids:List Nat
def Fit (nodes:List NodeM)(i:Nat):Prop:=∃m,nodes[i]?=some m∧2≤m.size∧m.size≤4
def Seps (keys:List Val)(cs:List Kid):Prop:=∀j k,keys[j]?=some k→(∀x∈(cs.take (j+1)).flatMap Kid.L,ak x.1 k<0)∧(∀x∈(cs.drop (j+1)).flatMap Kid.L,ak k x.1≤0)
def Rep (nodes:List NodeM):Nat→Nat→PL→List Nat→Prop
 | 0,i,L,ids=>∃m,nodes[i]?=some m∧m.leaf=true∧m.kids = []∧m.vals.length=m.keys.length∧L=m.keys.zip m.vals∧ids = [i]
 | d+1,i,L,ids=>∃m,nodes[i]?=some m∧m.leaf=false∧m.vals = []∧∃cs:List Kid,m.kids=cs.map Kid.id∧cs.length=m.keys.length+1∧(∀c∈cs,Rep nodes d c.id c.L c.ids∧Fit nodes c.id)∧Seps m.keys cs∧cw m.keys∧L=cs.flatMap Kid.L∧ids=i::cs.flatMap Kid.ids
theorem Rep.self {nodes:List NodeM}:∀ {d i:Nat} {L:PL} {ids:List Nat},Rep nodes d i L ids→i∈ids
 | 0,_,_,_,⟨_,_,_,_,_,_,h⟩=>by rw [h];simp
 | _+1,_,_,_,⟨_,_,_,_,_,_,_,_,_,_,_,h⟩=>by rw [h];simp
theorem Rep.node {nodes:List NodeM}:∀ {d i:Nat} {L:PL} {ids:List Nat},Rep nodes d i L ids→∃m,nodes[i]?=some m
 | 0,_,_,_,⟨m,h,_⟩=>⟨m,h⟩
 | _+1,_,_,_,⟨m,h,_⟩=>⟨m,h⟩
theorem Rep.frame {nodes nodes':List NodeM}:∀ {d i:Nat} {L:PL} {ids:List Nat},Rep nodes d i L ids→(∀x∈ids,nodes'[x]?=nodes[x]?)→Rep nodes' d i L ids
 | 0,i,_,_,⟨m,h,r⟩,hf=>⟨m,by rw [hf i (by rw [r.2.2.2.2];simp)];exact h,r⟩
 | d+1,i,_,ids,⟨m,h,h1,h2,cs,h3,h4,h5,h6,h7,h8,h9⟩,hf=>by
  refine⟨m,by rw [hf i (by rw [h9];simp)];exact h,h1,h2,cs,h3,h4,fun c hc=>?_,h6,h7,h8,h9⟩
  have hsub:∀x∈c.ids,nodes'[x]?=nodes[x]?:=fun x hx=>hf x (by rw [h9];exact List.mem_cons_of_mem _ (List.mem_flatMap.2 ⟨c,hc,hx⟩))
  obtain⟨h10,m',h11,h12⟩:=h5 c hc
  exact⟨h10.frame hsub,m',by rw [hsub c.id h10.self];exact h11,h12⟩
theorem Fit.frame {nodes nodes':List NodeM}{i:Nat}(h:Fit nodes i)(hf:nodes'[i]?=nodes[i]?):Fit nodes' i:=by
 obtain⟨m,h1,h2⟩:=h
 exact⟨m,by rw [hf];exact h1,h2⟩
theorem Rep.some {nodes:List NodeM}:∀ {d i:Nat} {L:PL} {ids:List Nat},Rep nodes d i L ids→(∃m,nodes[i]?=some m∧1≤m.size)→L≠[]
 | 0,_,_,_,⟨m,h,h1,h2,h3,h4,_⟩,⟨m',h',hs⟩=>by
  rw [h]at h';cases h'
  unfold NodeM.size at hs
  rw [h1,if_pos rfl]at hs
  intro e
  rw [e]at h4
  have:=congrArg List.length h4
  simp [List.length_zip,h3]at this
  omega
 | d+1,_,_,_,⟨m,h,h1,h2,cs,h3,h4,h5,_,_,h8,_⟩,_=>by
  cases cs with
  | nil=>simp at h4
  | cons c cs =>
   obtain⟨h10,m',h11,h12,_⟩:=h5 c (List.mem_cons_self ..)
   have:=Rep.some h10 ⟨m',h11,by omega⟩
   rw [h8]
   simp [this]
theorem dw {α:Type}(A B:List α)(x:α)(n:Nat):(A++x::B).take n=if n≤A.length then A.take n else A++x::B.take (n-A.length-1):=by
 split
 ·rename_i h;rw [List.take_append_of_le_length h]
 ·rename_i h
  obtain⟨q,rfl⟩:∃q,n=A.length+(q+1):=⟨n-A.length-1,by omega⟩
  rw [List.take_length_add_append,List.take_succ_cons,show A.length+(q+1)-A.length-1=q by omega]
theorem dA {α:Type}(A B:List α)(x:α)(n:Nat):(A++x::B).drop n=if n≤A.length then A.drop n++x::B else B.drop (n-A.length-1):=by
 split
 ·rename_i h;rw [List.drop_append_of_le_length h]
 ·rename_i h
  obtain⟨q,rfl⟩:∃q,n=A.length+(q+1):=⟨n-A.length-1,by omega⟩
  rw [List.drop_length_add_append,List.drop_succ_cons,show A.length+(q+1)-A.length-1=q by omega]
theorem Seps.swap {keys:List Val}{A Bs:List Kid}{c0 c1:Kid}(h:Seps keys (A++c0::Bs)){p:Val×VT}(hL:∀x∈c1.L,x.1=p.1∨x∈c0.L)
  (hp:∀j k,keys[j]?=some k→if A.length≤j then ak p.1 k<0 else ak k p.1≤0):Seps keys (A++c1::Bs):=by
 intro j k hk
 obtain⟨h1,h2⟩:=h j k hk
 have h3:=hp j k hk
 rw [dw]at h1 ⊢
 rw [dA]at h2 ⊢
 by_cases hj:j+1≤A.length
 ·rw [if_pos hj]at h1 h2 ⊢
  rw [if_neg (by omega)]at h3
  rw [if_pos hj]
  refine⟨h1,fun x hx=>?_⟩
  rw [List.flatMap_append,List.flatMap_cons,List.mem_append,List.mem_append]at hx
  rcases hx with hx|hx|hx
  ·exact h2 x (by rw [List.flatMap_append];exact List.mem_append.2 (.inl hx))
  ·rcases hL x hx with e|hx
   ·rw [e];exact h3
   ·exact h2 x (by rw [List.flatMap_append,List.flatMap_cons];exact List.mem_append.2 (.inr (List.mem_append.2 (.inl hx))))
  ·exact h2 x (by rw [List.flatMap_append,List.flatMap_cons];exact List.mem_append.2 (.inr (List.mem_append.2 (.inr hx))))
 ·rw [if_neg hj]at h1 h2 ⊢
  rw [if_pos (by omega)]at h3
  rw [if_neg hj]
  refine⟨fun x hx=>?_,h2⟩
  rw [List.flatMap_append,List.flatMap_cons,List.mem_append,List.mem_append]at hx
  rcases hx with hx|hx|hx
  ·exact h1 x (by rw [List.flatMap_append];exact List.mem_append.2 (.inl hx))
  ·rcases hL x hx with e|hx
   ·rw [e];exact h3
   ·exact h1 x (by rw [List.flatMap_append,List.flatMap_cons];exact List.mem_append.2 (.inr (List.mem_append.2 (.inl hx))))
  ·exact h1 x (by rw [List.flatMap_append,List.flatMap_cons];exact List.mem_append.2 (.inr (List.mem_append.2 (.inr hx))))
theorem lO {α:Type}(l:List α)(c:Nat)(x:α)(hc:c≤l.length)(j:Nat):(aU l c x)[j]?=if j<c then l[j]? else if j=c then some x else l[j-1]?:=by
 unfold aU
 have hl:(l.take c).length=c:=by rw [List.length_take];omega
 by_cases h1:j<c
 ·rw [if_pos h1,List.getElem?_append_left (by omega),List.getElem?_take,if_pos h1]
 ·rw [if_neg h1,List.getElem?_append_right (by omega),hl]
  by_cases h2:j=c
  ·subst h2;simp
  ·rw [if_neg h2]
   obtain⟨q,rfl⟩:∃q,j=c+(q+1):=⟨j-c-1,by omega⟩
   rw [show c+(q+1)-c=q+1 by omega,List.getElem?_cons_succ,List.getElem?_drop,show c+(q+1)-1=c+q by omega]
theorem Seps.split {keys:List Val}{A Bs:List Kid}{c1 k1 k2:Kid}{sep:Val}(hlen:(A++c1::Bs).length=keys.length+1)(h:Seps keys (A++c1::Bs))(hs:cw keys)
  (hL:c1.L=k1.L++k2.L) (h1:∀x∈k1.L,ak x.1 sep<0) (h2:∀x∈k2.L,ak sep x.1≤0) (hn1:k1.L≠[]) (hn2:k2.L≠[]) :
  Seps (aU keys A.length sep) (A++k1::k2::Bs)∧cw (aU keys A.length sep):=by
 simp only [List.length_append,List.length_cons]at hlen
 obtain⟨y,hy⟩:=List.exists_mem_of_ne_nil _ hn1
 obtain⟨z,hz⟩:=List.exists_mem_of_ne_nil _ hn2
 have lo:∀j k,keys[j]?=some k→j<A.length→ak k sep<0:=fun j k hk hj=>by
  have:=(h j k hk).2 y (by
   rw [dA,if_pos (by omega),List.flatMap_append,List.flatMap_cons,hL]
   simp [hy])
  exact jG this (h1 y hy)
 have hi:∀j k,keys[j]?=some k→A.length≤j→ak sep k<0:=fun j k hk hj=>by
  have:=(h j k hk).1 z (by
   rw [dw,if_neg (by omega),List.flatMap_append,List.flatMap_cons,hL]
   simp [hz])
  exact jG (h2 z hz) this
 have hA:∀x∈A.flatMap Kid.L,ak x.1 sep<0:=fun x hx=>by
  by_cases h0:A.length=0
  ·have:A = []:=List.length_eq_zero_iff.1 h0
   subst this;simp at hx
  ·obtain⟨k,hk⟩:∃k,keys[A.length-1]?=some k:=⟨_,List.getElem?_eq_getElem (by omega)⟩
   have:=(h _ k hk).1 x (by
    rw [dw,if_pos (by omega),List.take_of_length_le (by omega)]
    exact hx)
   exact eK this (lo _ k hk (by omega))
 have hB:∀x∈Bs.flatMap Kid.L,ak sep x.1≤0:=fun x hx=>by
  by_cases h0:Bs.length=0
  ·have:Bs = []:=List.length_eq_zero_iff.1 h0
   subst this;simp at hx
  ·obtain⟨k,hk⟩:∃k,keys[A.length]?=some k:=⟨_,List.getElem?_eq_getElem (by omega)⟩
   have:=(h _ k hk).2 x (by
    rw [dA,if_neg (by omega),show A.length+1-A.length-1=0 by omega,List.drop_zero]
    exact hx)
   have h3:=hi _ k hk (Nat.le_refl _)
   have:=i5 h3 this
   omega
 refine⟨fun j k hk=>?_,?_⟩
 ·rw [lO _ _ _ (by omega)]at hk
  have e3:A++k1::k2::Bs=(A ++ [k1])++k2::Bs:=by simp
  by_cases hj:j<A.length
  ·rw [if_pos hj]at hk
   obtain⟨g1,g2⟩:=h j k hk
   rw [dw,if_pos (by omega)]at g1 ⊢
   rw [dA,if_pos (by omega)]at g2 ⊢
   refine⟨g1,fun x hx=>g2 x ?_⟩
   simp only [List.flatMap_append,List.flatMap_cons,hL,List.mem_append]at hx ⊢
   rcases hx with hx|hx|hx|hx
   ·exact .inl hx
   ·exact .inr (.inl (.inl hx))
   ·exact .inr (.inl (.inr hx))
   ·exact .inr (.inr hx)
  ·rw [if_neg hj]at hk
   by_cases hj2:j=A.length
   ·subst hj2
    rw [if_pos rfl]at hk
    cases hk
    rw [dw,if_neg (by omega),dA,if_neg (by omega),show A.length+1-A.length-1=0 by omega]
    refine⟨fun x hx=>?_,fun x hx=>?_⟩
    ·simp only [List.take_zero,List.flatMap_append,List.flatMap_cons,List.flatMap_nil,List.append_nil,List.mem_append]at hx
     exact hx.elim (hA x) (h1 x)
    ·simp only [List.drop_zero,List.flatMap_cons,List.mem_append]at hx
     exact hx.elim (h2 x) (hB x)
   ·rw [if_neg hj2]at hk
    obtain⟨g1,g2⟩:=h (j-1) k hk
    rw [dw,if_neg (by omega)]at g1
    rw [dA,if_neg (by omega)]at g2
    rw [e3,dw,if_neg (by simp;omega),dA,if_neg (by simp;omega)]
    simp only [List.length_append,List.length_singleton]
    rw [show j+1-(A.length+1)-1=j-1+1-A.length-1 by omega]
    refine⟨fun x hx=>g1 x ?_,g2⟩
    simp only [List.flatMap_append,List.flatMap_cons,List.flatMap_nil,List.append_nil,hL,List.mem_append]at hx ⊢
    rcases hx with (hx|hx)|hx|hx
    ·exact .inl hx
    ·exact .inr (.inl (.inl hx))
    ·exact .inr (.inl (.inr hx))
    ·exact .inr (.inr hx)
 ·unfold cw aU
  have hlt:∀a∈keys.take A.length,ak a sep<0:=fun a ha=>by
   obtain⟨j,hj⟩:=List.mem_iff_getElem?.1 ha
   rw [List.getElem?_take]at hj
   split at hj
   ·rename_i hlt;exact lo j a hj hlt
   ·cases hj
  have hgt:∀a∈keys.drop A.length,ak sep a<0:=fun a ha=>by
   obtain⟨j,hj⟩:=List.mem_iff_getElem?.1 ha
   rw [List.getElem?_drop]at hj
   exact hi _ a hj (by omega)
  rw [List.pairwise_append,List.pairwise_cons]
  refine⟨hs.sublist (List.take_sublist _ _),⟨hgt,hs.sublist (List.drop_sublist _ _)⟩,fun a ha b hb=>?_⟩
  rcases List.mem_cons.1 hb with rfl|hb
  ·exact hlt a ha
  ·exact eK (hlt a ha) (hgt b hb)
theorem Seps.take {keys:List Val}{cs:List Kid}(h:Seps keys cs)(n:Nat):Seps (keys.take n) (cs.take (n+1)):=by
 intro j k hk
 rw [List.getElem?_take]at hk
 split at hk
 ·rename_i hj
  obtain⟨h1,h2⟩:=h j k hk
  rw [List.take_take,show min (j+1) (n+1)=j+1 by omega]
  refine⟨h1,fun x hx=>h2 x ?_⟩
  rw [List.drop_take]at hx
  obtain⟨c,hc,hx⟩:=List.mem_flatMap.1 hx
  exact List.mem_flatMap.2 ⟨c,List.mem_of_mem_take hc,hx⟩
 ·cases hk
theorem Seps.drop {keys:List Val}{cs:List Kid}(h:Seps keys cs)(n:Nat):Seps (keys.drop n) (cs.drop n):=by
 intro j k hk
 rw [List.getElem?_drop]at hk
 obtain⟨h1,h2⟩:=h (n+j) k hk
 refine⟨fun x hx=>h1 x ?_,fun x hx=>h2 x ?_⟩
 ·rw [List.take_drop]at hx
  obtain⟨c,hc,hx⟩:=List.mem_flatMap.1 hx
  exact List.mem_flatMap.2 ⟨c,by rw [show n+j+1=n+(j+1) by omega];exact List.mem_of_mem_drop hc,hx⟩
 ·rw [List.drop_drop]at hx
  rw [show n+j+1=n+(j+1) by omega]
  exact hx
abbrev bB (L:PL):Prop:=L.Pairwise (fun a b=>ak a.1 b.1<0)
def eY (L:PL):Prop:=∀p∈L,am p.1=true
def cA (L:PL)(k:Val):Bool:=L.any (fun p=>decide (ak p.1 k=0))
def dn (L:PL)(k:Val)(v:VT):PL:=L.filter (fun p=>decide (ak p.1 k<0))++(k,v)::L.filter (fun p=>decide (0<ak p.1 k))
theorem kV {α:Type}{p:α→Bool}{l:List α}(h:∀x∈l,p x=true):l.filter p=l:=List.filter_eq_self.2 h
theorem dz {α:Type}{p:α→Bool}{l:List α}(h:∀x∈l,p x=false):l.filter p = []:=List.filter_eq_nil_iff.2 (fun x hx=>by rw [h x hx];simp)
theorem oe {A M Bs:PL}{k:Val}{v:VT}(hA:∀x∈A,ak x.1 k<0)(hB:∀x∈Bs,ak k x.1<0):dn (A++M++Bs) k v=A++dn M k v++Bs:=by
 have hB':∀x∈Bs,0<ak x.1 k:=fun x hx=>(ec _ _).2 (hB x hx)
 unfold dn
 simp only [List.filter_append]
 rw [kV (l:=A) (fun x hx=>by simpa using hA x hx),dz (l:=A) (fun x hx=>by have:=hA x hx;simp;omega),dz (l:=Bs) (fun x hx=>by have:=hB' x hx;simp;omega),kV (l:=Bs) (fun x hx=>by simpa using hB' x hx)]
 simp
theorem iO {A M Bs:PL}{k:Val}(hA:∀x∈A,ak x.1 k<0)(hB:∀x∈Bs,ak k x.1<0):cA (A++M++Bs) k=cA M k:=by
 unfold cA
 rw [List.any_append,List.any_append]
 have h1:A.any (fun p=>decide (ak p.1 k=0))=false:=List.any_eq_false.2 (fun x hx=>by have:=hA x hx;simp;omega)
 have h2:Bs.any (fun p=>decide (ak p.1 k=0))=false:=List.any_eq_false.2 (fun x hx=>by have:=(ec _ _).2 (hB x hx);simp;omega)
 rw [h1,h2];simp
theorem jY {A Bs M:PL}{k:Val}{v:VT}(hA:∀x∈A,ak x.1 k<0)(hM:∀x∈M,ak x.1 k=0)(hB:∀x∈Bs,ak k x.1<0):dn (A++M++Bs) k v=A++(k,v)::Bs:=by
 rw [oe hA hB]
 unfold dn
 rw [dz (l:=M) (fun x hx=>by have:=hM x hx;simp;omega),dz (l:=M) (fun x hx=>by have:=hM x hx;simp;omega)]
 simp
theorem nY {L:PL}{k:Val}{v:VT}{x:Val×VT}(h:x∈dn L k v):x=(k,v)∨x∈L:=by
 unfold dn at h
 rcases List.mem_append.1 h with h|h
 ·exact .inr (List.mem_filter.1 h).1
 ·rcases List.mem_cons.1 h with h|h
  ·exact .inl h
  ·exact .inr (List.mem_filter.1 h).1
theorem gF {L:PL}{k:Val}{v:VT}(h:bB L):bB (dn L k v):=by
 unfold dn bB
 rw [List.pairwise_append,List.pairwise_cons]
 refine⟨List.Pairwise.filter _ h,⟨fun a ha=>?_,List.Pairwise.filter _ h⟩,fun a ha b hb=>?_⟩
 ·have:=(List.mem_filter.1 ha).2
  exact(ec _ _).1 (by simpa using this)
 ·have h1:ak a.1 k<0:=by simpa using (List.mem_filter.1 ha).2
  rcases List.mem_cons.1 hb with rfl|hb
  ·exact h1
  ·have h2:ak k b.1<0:=(ec _ _).1 (by simpa using (List.mem_filter.1 hb).2)
   exact eK h1 h2
theorem pu {L:PL}{k:Val}{v:VT}(hk:am k=true)(h:eY L):eY (dn L k v):=fun x hx=>by
 rcases nY hx with rfl|hx
 ·exact hk
 ·exact h x hx
theorem qC {α β:Type}:∀(xs:List α) (ys:List β) (i:Nat) (x:α) (y:β),xs[i]?=some x→(xs.zip (ys.set i y))=(xs.zip ys).set i (x,y)
 | [],_,_,_,_,h=>by simp at h
 | _::_,[],_,_,_,_=>by simp
 | a::xs,b::ys,0,x,y,h=>by simp at h;subst h;simp
 | a::xs,b::ys,i+1,x,y,h=>by simp [qC xs ys i x y (by simpa using h)]
theorem gA {α β:Type}:∀(xs:List α) (ys:List β) (n:Nat),(xs.take n).zip (ys.take n)=(xs.zip ys).take n
 | _,_,0=>by simp
 | [],_,_+1=>by simp
 | _::_,[],_+1=>by simp
 | a::xs,b::ys,n+1=>by simp [gA xs ys n]
theorem gL {α β:Type}:∀(xs:List α) (ys:List β) (n:Nat),(xs.drop n).zip (ys.drop n)=(xs.zip ys).drop n
 | _,_,0=>by simp
 | [],_,_+1=>by simp
 | _::_,[],_+1=>by simp
 | a::xs,b::ys,n+1=>by simp [gL xs ys n]
theorem rJ {α β:Type}(xs:List α)(ys:List β)(n:Nat)(x:α)(y:β)(h:ys.length=xs.length):(aU xs n x).zip (aU ys n y)=(xs.zip ys).take n++(x,y)::(xs.zip ys).drop n:=by
 unfold aU
 rw [List.zip_append (by simp [h]),List.zip_cons_cons,gA,gL]
theorem sC {xs:List Val}{ys:List VT}(h:ys.length=xs.length):(xs.zip ys).map Prod.fst=xs:=List.map_fst_zip (by omega)
theorem ee {xs:List Val}{ys:List VT}{j:Nat}{p:Val×VT}(h:(xs.zip ys)[j]?=some p):xs[j]?=some p.1:=(List.getElem?_zip_eq_some.1 h).1
theorem d9 {xs:List Val}{ys:List VT}(hl:ys.length=xs.length)(h:bB (xs.zip ys)):cw xs:=by
 rw [←sC hl]
 exact List.pairwise_map.2 h
theorem dY {α:Type}{l:List α}{n:Nat}{P:α→Prop}(h:∀j x,l[j]?=some x→j<n→P x):∀x∈l.take n,P x:=fun x hx=>by
 obtain⟨j,hj⟩:=List.mem_iff_getElem?.1 hx
 rw [List.getElem?_take]at hj
 split at hj
 ·exact h j x hj (by assumption)
 ·cases hj
theorem dV {α:Type}{l:List α}{n:Nat}{P:α→Prop}(h:∀j x,l[j]?=some x→n≤j→P x):∀x∈l.drop n,P x:=fun x hx=>by
 obtain⟨j,hj⟩:=List.mem_iff_getElem?.1 hx
 rw [List.getElem?_drop]at hj
 exact h _ x hj (by omega)
theorem pU {xs:List Val}{ys:List VT}{k:Val}{v:VT}(hl:ys.length=xs.length)(hs:bB (xs.zip ys))(hr:eY (xs.zip ys))(hk:am k=true)(h:dI xs k=true) :
  xs.zip (ys.set (bq xs k) v)=dn (xs.zip ys) k v∧cA (xs.zip ys) k=true:=by
 have hsk:=d9 hl hs
 obtain⟨x,hx,hx0⟩:=(fl (ks:=xs) k).1 h
 have hlt:=(List.getElem?_eq_some_iff.1 hx).1
 obtain⟨y,hy⟩:∃y,ys[bq xs k]?=some y:=⟨_,List.getElem?_eq_getElem (by omega)⟩
 have hz:(xs.zip ys)[bq xs k]?=some (x,y):=List.getElem?_zip_eq_some.2 ⟨hx,hy⟩
 obtain rfl:x=k:=jm (hr _ (List.mem_of_getElem? hz)) hk hx0
 have hzl:bq xs x<(xs.zip ys).length:=(List.getElem?_eq_some_iff.1 hz).1
 have e1:xs.zip ys=(xs.zip ys).take (bq xs x) ++ [(x,y)]++(xs.zip ys).drop (bq xs x+1):=by
  have:=List.take_append_drop (bq xs x) (xs.zip ys)
  rw [List.drop_eq_getElem_cons hzl]at this
  rw [List.getElem?_eq_getElem hzl]at hz
  rw [Option.some.inj hz]at this
  rw [List.append_assoc]
  exact this.symm
 have hA:∀p∈(xs.zip ys).take (bq xs x),ak p.1 x<0:=dY (fun j p hj hlt=>(fw x hsk j p.1 (ee hj)).1 hlt)
 have hB:∀p∈(xs.zip ys).drop (bq xs x+1),ak x p.1<0:=dV (fun j p hj hge=>by
  have h1:=ee hj
  have hjl:=(List.getElem?_eq_some_iff.1 h1).1
  have:=List.pairwise_iff_getElem.1 hsk (bq xs x) j hlt hjl (by omega)
  rw [List.getElem?_eq_getElem hlt]at hx
  rw [List.getElem?_eq_getElem hjl]at h1
  rw [Option.some.inj hx,Option.some.inj h1]at this
  exact this)
 refine⟨?_,?_⟩
 ·rw [qC _ _ _ _ _ hx]
  conv=>rhs;rw [e1]
  rw [jY hA (fun p hp=>by simp at hp;subst hp;exact cV _) hB,List.set_eq_take_append_cons_drop,if_pos hzl]
 ·unfold cA
  exact List.any_eq_true.2 ⟨_,List.mem_of_getElem? hz,by simp [cV]⟩
theorem iE {xs:List Val}{ys:List VT}{k:Val}{v:VT}(hl:ys.length=xs.length)(hs:bB (xs.zip ys))(h:dI xs k=false) :
  (aU xs (bq xs k) k).zip (aU ys (bq xs k) v)=dn (xs.zip ys) k v∧cA (xs.zip ys) k=false:=by
 have hsk:=d9 hl hs
 have hA:∀p∈(xs.zip ys).take (bq xs k),ak p.1 k<0:=dY (fun j p hj hlt=>(fw k hsk j p.1 (ee hj)).1 hlt)
 have hB:∀p∈(xs.zip ys).drop (bq xs k),ak k p.1<0:=dV (fun j p hj hge=>by
  have h1:=ee hj
  have h2:¬ak p.1 k<0:=fun hc=>by have:=(fw k hsk j p.1 h1).2 hc;omega
  have h3:¬j<bD xs k:=by unfold bD;rw [h];simp;omega
  have h4:¬ak p.1 k≤0:=fun hc=>h3 ((gr k hsk j p.1 h1).2 hc)
  exact(ec _ _).1 (by omega))
 have e1:xs.zip ys=(xs.zip ys).take (bq xs k) ++ []++(xs.zip ys).drop (bq xs k):=by simp
 refine⟨?_,?_⟩
 ·rw [rJ _ _ _ _ _ hl]
  conv=>rhs;rw [e1]
  rw [jY hA (fun p hp=>by simp at hp) hB]
 ·rw [e1,iO hA hB];rfl
theorem kK {T:TM}{b:Bool}{xs:List Nat}(hp:(xs++T.free).Perm (List.range T.nodes.length)) :
  ((T.slot b).1::xs++(T.slot b).2.free).Perm (List.range (T.slot b).2.nodes.length)∧(∀x∈xs,(T.slot b).2.nodes[x]?=T.nodes[x]?)∧(T.slot b).1 ∉ xs∧(T.slot b).2.nodes.length≤T.nodes.length+1∧((T.slot b).2.nodes.length=T.nodes.length∨(T.slot b).2.free = [])∧(∀x,T.free.getLast?=some x→x<T.nodes.length∧x ∉ xs)∧(T.slot b).1<(T.slot b).2.nodes.length∧T.free.length≤T.nodes.length∧(∀x∈xs,x<T.nodes.length):=by
 have hmem:∀x∈xs++T.free,x<T.nodes.length:=fun x hx=>List.mem_range.1 (hp.mem_iff.1 hx)
 have hnd:(xs++T.free).Nodup:=hp.nodup_iff.2 List.nodup_range
 have hfl:T.free.length≤T.nodes.length:=by
  have:=hp.length_eq
  simp at this;omega
 have hlast:∀x,T.free.getLast?=some x→x<T.nodes.length∧x ∉ xs:=fun x hx=>by
  have hm:x∈T.free:=List.mem_of_getLast? hx
  exact⟨hmem x (List.mem_append.2 (.inr hm)),fun hxs=>(List.nodup_append.1 hnd).2.2 x hxs x hm rfl⟩
 refine⟨?_,?_,?_,?_,?_,hlast,?_,hfl,fun x hx=>hmem x (List.mem_append.2 (.inl hx))⟩
 all_goals unfold TM.slot
 all_goals split
 ·rename_i x hx
  have e:T.free=T.free.dropLast ++ [x]:=by
   have hne:T.free≠[]:=fun h=>by rw [h]at hx;cases hx
   rw [List.getLast?_eq_some_getLast hne]at hx
   rw [←Option.some.inj hx]
   exact(List.dropLast_concat_getLast hne).symm
  dsimp only
  rw [List.length_set]
  refine List.Perm.trans ?_ hp
  rw [List.perm_iff_count]
  intro a
  conv=>rhs;rw [e]
  simp only [List.cons_append,List.count_append,List.count_cons,List.count_nil]
  omega
 ·rename_i hx
  have e:T.free = []:=List.getLast?_eq_none_iff.1 hx
  dsimp only
  rw [e]at hp ⊢
  rw [List.append_nil]at hp ⊢
  rw [List.length_append,List.length_singleton,List.range_succ]
  exact(List.Perm.cons _ hp).trans (List.perm_append_singleton _ _).symm
 ·rename_i x hx
  intro y hy
  dsimp only
  rw [List.getElem?_set_ne (fun e=>(hlast x hx).2 (by rw [e];exact hy))]
 ·intro y hy
  dsimp only
  rw [List.getElem?_append_left (hmem y (List.mem_append.2 (.inl hy)))]
 ·rename_i x hx;exact(hlast x hx).2
 ·intro hx
  have:=hmem _ (List.mem_append.2 (.inl hx))
  dsimp only at this;omega
 ·dsimp only;rw [List.length_set];omega
 ·dsimp only;rw [List.length_append];simp
 ·exact .inl (by dsimp only;rw [List.length_set])
 ·rename_i hx
  exact .inr (List.getLast?_eq_none_iff.1 hx)
 ·rename_i x hx;dsimp only;rw [List.length_set];exact(hlast x hx).1
 ·dsimp only;simp
theorem rT {nodes:List NodeM}{d kid:Nat}{L1:PL}{ids1:List Nat}{mk:NodeM}(hR:Rep nodes d kid L1 ids1)(hmk:nodes[kid]?=some mk)(hz:mk.size=5)(hs:bB L1)(hnd:ids1.Nodup) :
  ∃sep l1 l2 idlo idhi,mk.keys[mk.keys.length / 2]?=some sep∧L1=l1++l2∧(∀x∈l1,ak x.1 sep<0)∧(∀x∈l2,ak sep x.1≤0)∧l1≠[]∧l2≠[]∧3≤mk.keys.length∧mk.keys.length≤1000 ∧
   (mk.leaf=true→mk.vals.length=mk.keys.length)∧(mk.leaf=false→mk.kids.length=mk.keys.length+1) ∧
   (∀nodes' nw,nodes'[kid]?=some mk.lo→nodes'[nw]?=some mk.hi→(∀x∈ids1,x≠kid→nodes'[x]?=nodes[x]?)→Rep nodes' d kid l1 (kid::idlo)∧Rep nodes' d nw l2 (nw::idhi)) ∧
   ids1=kid::(idlo++idhi)∧mk.lo.size=(if mk.leaf then 2 else 3)∧mk.hi.size=(if mk.leaf then 3 else 2):=by
 cases d with
 | zero =>
  obtain⟨m,hm,h1,h2,h3,h4,h5⟩:=hR
  rw [hmk]at hm;cases hm
  have hkl:mk.keys.length=5:=by unfold NodeM.size at hz;rw [h1,if_pos rfl]at hz;exact hz
  have hsk:cw mk.keys:=d9 h3 (h4▸hs)
  obtain⟨sep,hsep⟩:∃sep,mk.keys[2]?=some sep:=⟨_,List.getElem?_eq_getElem (by omega)⟩
  have hzl:(mk.keys.zip mk.vals).length=5:=by rw [List.length_zip,h3,hkl];rfl
  have h2l:(2:Nat)<mk.keys.length:=by omega
  refine⟨sep,(mk.keys.zip mk.vals).take 2,(mk.keys.zip mk.vals).drop 2,[],[],by rw [hkl];exact hsep,by rw [h4,List.take_append_drop],?_,?_,?_,?_,by omega,by omega,fun _=>h3,fun h=>(by rw [h1]at h;cases h),?_,by rw [h5];rfl,?_,?_⟩
  ·refine dY (fun j p hj hlt=>?_)
   have hg:=ee hj
   have hjl:=(List.getElem?_eq_some_iff.1 hg).1
   have:=List.pairwise_iff_getElem.1 hsk j 2 hjl h2l hlt
   rw [List.getElem?_eq_getElem h2l]at hsep
   rw [List.getElem?_eq_getElem hjl]at hg
   rw [Option.some.inj hsep,Option.some.inj hg]at this
   exact this
  ·refine dV (fun j p hj hge=>?_)
   have hg:=ee hj
   have hjl:=(List.getElem?_eq_some_iff.1 hg).1
   rw [List.getElem?_eq_getElem h2l]at hsep
   by_cases he:j=2
   ·subst he
    rw [List.getElem?_eq_getElem h2l,hsep]at hg
    rw [Option.some.inj hg,cV]
    exact Int.le_refl _
   ·have:=List.pairwise_iff_getElem.1 hsk 2 j h2l hjl (by omega)
    rw [List.getElem?_eq_getElem hjl]at hg
    rw [Option.some.inj hsep,Option.some.inj hg]at this
    omega
  ·intro e;have:=congrArg List.length e;rw [List.length_take,hzl]at this;simp at this
  ·intro e;have:=congrArg List.length e;rw [List.length_drop,hzl]at this;simp at this
  ·intro nodes' nw hlo hhi _
   have hl5:mk.vals.length=5:=by omega
   refine⟨⟨mk.lo,hlo,?_⟩,⟨mk.hi,hhi,?_⟩⟩
   ·simp only [NodeM.lo,h1,if_true,hkl]
    exact⟨by trivial,h2,by rw [List.length_take,List.length_take,hkl,hl5],by rw [gA],by trivial⟩
   ·simp only [NodeM.hi,h1,if_true,hkl]
    exact⟨by trivial,by trivial,by rw [List.length_drop,List.length_drop,hkl,hl5],by rw [gL],by trivial⟩
  ·simp [NodeM.size,NodeM.lo,h1,hkl]
  ·simp [NodeM.size,NodeM.hi,h1,hkl]
 | succ d =>
  obtain⟨m,hm,h1,h2,cs,h3,h4,h5,h6,h7,h8,h9⟩:=hR
  rw [hmk]at hm;cases hm
  have hkid5:mk.kids.length=5:=by unfold NodeM.size at hz;rw [h1]at hz;simpa using hz
  have hcl:cs.length=5:=by rw [h3,List.length_map]at hkid5;exact hkid5
  have hkl:mk.keys.length=4:=by omega
  obtain⟨sep,hsep⟩:∃sep,mk.keys[2]?=some sep:=⟨_,List.getElem?_eq_getElem (by omega)⟩
  obtain⟨g1,g2⟩:=h6 2 sep hsep
  have hne:∀c∈cs,c.L≠[]:=fun c hc=>by
   obtain⟨hr,m',hm',hf,_⟩:=h5 c hc
   exact hr.some ⟨m',hm',by omega⟩
  have some_of:∀l:List Kid,l≠[]→(∀c∈l,c∈cs)→l.flatMap Kid.L≠[]:=fun l hl hsub e=>by
   obtain⟨c,hc⟩:=List.exists_mem_of_ne_nil _ hl
   obtain⟨y,hy⟩:=List.exists_mem_of_ne_nil _ (hne c (hsub c hc))
   have:y∈l.flatMap Kid.L:=List.mem_flatMap.2 ⟨c,hc,hy⟩
   rw [e]at this;cases this
  rw [h9]at hnd
  obtain⟨hnk,_⟩:=List.nodup_cons.1 hnd
  refine⟨sep,(cs.take 3).flatMap Kid.L,(cs.drop 3).flatMap Kid.L,(cs.take 3).flatMap Kid.ids,(cs.drop 3).flatMap Kid.ids,by rw [hkl];exact hsep,?_,g1,g2,?_,?_,by omega,by omega,fun h=>(by rw [h1]at h;cases h),fun _=>by omega,?_,?_,?_,?_⟩
  ·rw [h8,←List.flatMap_append,List.take_append_drop]
  ·exact some_of _ (fun e=>by have:=congrArg List.length e;rw [List.length_take,hcl]at this;simp at this) (fun c hc=>List.mem_of_mem_take hc)
  ·exact some_of _ (fun e=>by have:=congrArg List.length e;rw [List.length_drop,hcl]at this;simp at this) (fun c hc=>List.mem_of_mem_drop hc)
  ·intro nodes' nw hlo hhi hf
   have hf':∀c∈cs,Rep nodes' d c.id c.L c.ids∧Fit nodes' c.id:=fun c hc=>by
    have hsub:∀x∈c.ids,nodes'[x]?=nodes[x]?:=fun x hx=>by
     have hm:x∈cs.flatMap Kid.ids:=List.mem_flatMap.2 ⟨c,hc,hx⟩
     exact hf x (by rw [h9];exact List.mem_cons_of_mem _ hm) (fun e=>hnk (e▸hm))
    obtain⟨hr,hfi⟩:=h5 c hc
    exact⟨hr.frame hsub,hfi.frame (hsub _ hr.self)⟩
   refine⟨⟨mk.lo,hlo,?_⟩,⟨mk.hi,hhi,?_⟩⟩
   ·simp only [NodeM.lo,h1,hkl]
    refine⟨by trivial,h2,cs.take 3,by rw [h3,List.map_take];rfl,?_,fun c hc=>hf' c (List.mem_of_mem_take hc),h6.take 2,h7.sublist (List.take_sublist _ _),rfl,rfl⟩
    simp [hkl,hcl]
   ·simp only [NodeM.hi,h1,hkl]
    refine⟨by trivial,by trivial,cs.drop 3,by rw [h3,List.map_drop];rfl,?_,fun c hc=>hf' c (List.mem_of_mem_drop hc),h6.drop 3,h7.sublist (List.drop_sublist _ _),rfl,rfl⟩
    simp [hkl,hcl]
  ·rw [h9,←List.flatMap_append,List.take_append_drop]
  ·simp [NodeM.size,NodeM.lo,h1,hkl,hkid5]
  ·simp [NodeM.size,NodeM.hi,h1,hkl,hkid5]
theorem l4 {T:TM}{d i:Nat}{m mk:NodeM}{A Bs:List Kid}{c1:Kid}{ctx:List Nat}(hi:T.nodes[i]?=some m)(hl:m.leaf=false)(hv:m.vals = [])(hk:m.kids=(A++c1::Bs).map Kid.id)(hlen:(A++c1::Bs).length=m.keys.length+1)
  (hA:∀c∈A++Bs,Rep T.nodes d c.id c.L c.ids∧Fit T.nodes c.id) (h1:Rep T.nodes d c1.id c1.L c1.ids) (hmk:T.nodes[c1.id]?=some mk) (hz:mk.size=5) (hse:Seps m.keys (A++c1::Bs)) (hsk:cw m.keys) (hsL:bB c1.L)
  (hp:((i::(A++c1::Bs).flatMap Kid.ids)++ctx++T.free).Perm (List.range T.nodes.length)) (hbig:T.nodes.length≤1000000) (hkb:m.keys.length≤1000) :
  ∃T3 ids3 m3,T.Split i A.length T3∧Rep T3.nodes (d+1) i ((A++c1::Bs).flatMap Kid.L) ids3∧(ids3++ctx++T3.free).Perm (List.range T3.nodes.length)∧(∀x∈ctx,T3.nodes[x]?=T.nodes[x]?)∧T3.nodes[i]?=some m3∧m3.leaf=false∧m3.size=m.size+1 ∧
   T3.nodes.length≤T.nodes.length+1∧(T3.nodes.length=T.nodes.length∨T3.free = [])∧T3.k=T.k:=by
 obtain⟨q1,q2,q3,q4,q5,q6,q7,q8,q9⟩:=kK (b:=mk.leaf) hp
 have hnd:((i::(A++c1::Bs).flatMap Kid.ids)++ctx++T.free).Nodup:=hp.nodup_iff.2 List.nodup_range
 obtain⟨hnd0,_,hnd4⟩:=List.nodup_append.1 hnd
 obtain⟨hnd1,_,hnd3⟩:=List.nodup_append.1 hnd0
 obtain⟨hni,hnd2⟩:=List.nodup_cons.1 hnd1
 rw [List.flatMap_append,List.flatMap_cons]at hnd2 hni
 have hnc1:c1.ids.Nodup:=(List.nodup_append.1 (List.nodup_append.1 hnd2).2.1).1
 obtain⟨sep,l1,l2,idlo,idhi,hsep,hL,hl1,hl2,hn1,hn2,hk3,hkb2,hlv,hlk,hre,hids,hslo,hshi⟩:=rT h1 hmk hz hsL hnc1
 obtain⟨nw,T2,hsl⟩:∃nw T2,T.slot mk.leaf=(nw,T2):=⟨_,_,rfl⟩
 have hkm:c1.id∈c1.ids:=h1.self
 have hik:i≠c1.id:=fun e=>hni (by rw [e];exact List.mem_append.2 (.inr (List.mem_append.2 (.inl hkm))))
 rw [hsl]at q1 q2 q3 q4 q5 q7
 dsimp only at q1 q2 q3 q4 q5 q7
 have hT2k:T2.k=T.k:=by have:=jl T mk.leaf;rw [hsl]at this;exact this
 have hmemall:∀c∈A++c1::Bs,∀x∈c.ids,x∈(i::(A++c1::Bs).flatMap Kid.ids)++ctx:=fun c hc x hx=>List.mem_append.2 (.inl (List.mem_cons_of_mem _ (List.mem_flatMap.2 ⟨c,hc,hx⟩)))
 have hmi:i∈(i::(A++c1::Bs).flatMap Kid.ids)++ctx:=List.mem_append.2 (.inl (List.mem_cons_self ..))
 have hmk1:c1.id∈(i::(A++c1::Bs).flatMap Kid.ids)++ctx:=hmemall c1 (by simp) _ hkm
 have hnwi:nw≠i:=fun e=>q3 (by rw [e];exact hmi)
 have hnwk:nw≠c1.id:=fun e=>q3 (by rw [e];exact hmk1)
 have hsz:∀x∈(i::(A++c1::Bs).flatMap Kid.ids)++ctx,x<T2.nodes.length:=fun x hx=>by
  have:=q1.mem_iff.1 (List.mem_append.2 (.inl (List.mem_cons_of_mem nw hx)))
  exact List.mem_range.1 this
 have hn3:∀x,(T2.spl nw i c1.id A.length m mk sep).nodes[x]?=if i=x then some { m with keys:=aU m.keys A.length sep,kids:=aU m.kids (A.length+1) nw } else if c1.id=x then some mk.lo else if nw=x then some mk.hi else T2.nodes[x]?:=by
  intro x
  unfold TM.spl
  dsimp only
  rw [List.getElem?_set,List.length_set,List.length_set]
  by_cases e1:i=x
  ·rw [if_pos e1,if_pos e1,if_pos (hsz i hmi)]
  ·rw [if_neg e1,if_neg e1,List.getElem?_set,List.length_set]
   by_cases e2:c1.id=x
   ·rw [if_pos e2,if_pos e2,if_pos (hsz _ hmk1)]
   ·rw [if_neg e2,if_neg e2,List.getElem?_set]
    by_cases e3:nw=x
    ·rw [if_pos e3,if_pos e3,if_pos q7]
    ·rw [if_neg e3,if_neg e3]
 have hold:∀x∈(i::(A++c1::Bs).flatMap Kid.ids)++ctx,x≠i→x≠c1.id→(T2.spl nw i c1.id A.length m mk sep).nodes[x]?=T.nodes[x]?:=fun x hx h1 h2=>by
  rw [hn3,if_neg (Ne.symm h1),if_neg (Ne.symm h2),if_neg (fun e=>q3 (by rw [e];exact hx)),q2 x hx]
 obtain⟨r1,r2⟩:=hre (T2.spl nw i c1.id A.length m mk sep).nodes nw (by rw [hn3,if_neg hik,if_pos rfl]) (by rw [hn3,if_neg (Ne.symm hnwi),if_neg (Ne.symm hnwk),if_pos rfl]) (fun x hx hne=>by
  refine hold x (hmemall c1 (by simp) x hx) (fun e=>hni ?_) hne
  rw [←e];exact List.mem_append.2 (.inr (List.mem_append.2 (.inl hx))))
 have hcA:m.kids[A.length]?=some c1.id:=by rw [hk,List.getElem?_map,List.getElem?_append_right (Nat.le_refl _),Nat.sub_self];rfl
 simp only [List.length_append,List.length_cons]at hlen
 obtain⟨se1,se2⟩:=Seps.split (k1:=⟨c1.id,l1,c1.id::idlo⟩) (k2:=⟨nw,l2,nw::idhi⟩) (sep:=sep) (by simp;omega) hse hsk hL hl1 hl2 hn1 hn2
 have hfit1:Fit (T2.spl nw i c1.id A.length m mk sep).nodes c1.id:=⟨mk.lo,by rw [hn3,if_neg hik,if_pos rfl],by rw [hslo];split<;>omega,by rw [hslo];split<;>omega⟩
 have hfit2:Fit (T2.spl nw i c1.id A.length m mk sep).nodes nw:=⟨mk.hi,by rw [hn3,if_neg (Ne.symm hnwi),if_neg (Ne.symm hnwk),if_pos rfl],by rw [hshi];split<;>omega,by rw [hshi];split<;>omega⟩
 have hothers:∀c∈A++Bs,Rep (T2.spl nw i c1.id A.length m mk sep).nodes d c.id c.L c.ids∧Fit (T2.spl nw i c1.id A.length m mk sep).nodes c.id:=fun c hc=>by
  have hcm:c∈A++c1::Bs:=by rcases List.mem_append.1 hc with h|h<;>simp [h]
  have hsub:∀x∈c.ids,(T2.spl nw i c1.id A.length m mk sep).nodes[x]?=T.nodes[x]?:=fun x hx=>by
   refine hold x (hmemall c hcm x hx) (fun e=>hni ?_) (fun e=>?_)
   ·rw [←e,←List.flatMap_cons,←List.flatMap_append];exact List.mem_flatMap.2 ⟨c,hcm,hx⟩
   ·subst e
    obtain⟨u1,u2,u3⟩:=List.nodup_append.1 hnd2
    obtain⟨v1,v2,v3⟩:=List.nodup_append.1 u2
    rcases List.mem_append.1 hc with h|h
    ·exact u3 _ (List.mem_flatMap.2 ⟨c,h,hx⟩) _ (List.mem_append.2 (.inl hkm)) rfl
    ·exact v3 _ hkm _ (List.mem_flatMap.2 ⟨c,h,hx⟩) rfl
  obtain⟨hr,hf⟩:=hA c hc
  exact⟨hr.frame hsub,hf.frame (hsub _ hr.self)⟩
 refine⟨T2.spl nw i c1.id A.length m mk sep,i::(A++⟨c1.id,l1,c1.id::idlo⟩::⟨nw,l2,nw::idhi⟩::Bs).flatMap Kid.ids,{ m with keys:=aU m.keys A.length sep,kids:=aU m.kids (A.length+1) nw },?_,?_,?_,?_,by rw [hn3,if_pos rfl],hl,?_,?_,?_,?_⟩
 ·refine⟨m,c1.id,mk,sep,hi,hcA,hmk,hsep,⟨hik,fun x hx=>⟨(q6 x hx).1,fun e=>(q6 x hx).2 (by rw [e];exact hmi),fun e=>(q6 x hx).2 (by rw [e];exact hmk1)⟩,hbig,by omega,hkb2,by omega,by rw [hk,List.length_map];simp;omega,hkb,hk3,hlv,hlk⟩,by rw [hsl]⟩
 ·refine⟨{ m with keys:=aU m.keys A.length sep,kids:=aU m.kids (A.length+1) nw },by rw [hn3,if_pos rfl],hl,hv,A++⟨c1.id,l1,c1.id::idlo⟩::⟨nw,l2,nw::idhi⟩::Bs,?_,?_,?_,se1,se2,?_,rfl⟩
  ·dsimp only
   unfold aU
   rw [hk,List.map_append,List.map_cons]
   have e1:A.length+1=(A.map Kid.id ++ [c1.id]).length:=by simp
   have e2:A.map Kid.id++c1.id::Bs.map Kid.id=(A.map Kid.id ++ [c1.id])++Bs.map Kid.id:=by simp
   rw [e2,e1,List.take_left,List.drop_left]
   simp
  ·dsimp only;rw [bO];simp;omega
  ·intro c hc
   rcases List.mem_append.1 hc with h|h
   ·exact hothers c (List.mem_append.2 (.inl h))
   ·rcases List.mem_cons.1 h with rfl|h
    ·exact⟨r1,hfit1⟩
    ·rcases List.mem_cons.1 h with rfl|h
     ·exact⟨r2,hfit2⟩
     ·exact hothers c (List.mem_append.2 (.inr h))
  ·simp only [List.flatMap_append,List.flatMap_cons,hL,List.append_assoc]
 ·have hlen3:(T2.spl nw i c1.id A.length m mk sep).nodes.length=T2.nodes.length:=by unfold TM.spl;simp
  have hfree3:(T2.spl nw i c1.id A.length m mk sep).free=T2.free:=rfl
  rw [hlen3,hfree3]
  refine List.Perm.trans ?_ q1
  rw [List.perm_iff_count]
  intro a
  simp only [List.flatMap_append,List.flatMap_cons,hids,List.cons_append,List.count_append,List.count_cons,List.append_assoc]
  omega
 ·intro x hx
  refine hold x (List.mem_append.2 (.inr hx)) (fun e=>?_) (fun e=>?_)
  ·exact hnd3 _ (List.mem_cons_self ..) _ hx e.symm
  ·exact hnd3 _ (List.mem_cons_of_mem _ (List.mem_flatMap.2 ⟨c1,by simp,hkm⟩)) _ hx e.symm
 ·unfold NodeM.size
  dsimp only
  rw [hl]
  simp [bO]
 ·unfold TM.spl;simp;omega
 ·unfold TM.spl;simp;exact q5
 ·unfold TM.spl;exact hT2k
end Go.Proofs.YtdobimafhbfkhaaGreat
