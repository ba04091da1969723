/- The document's answer: Compare (ratlineref01; the text of the Tree), and what follows. -/
import Derived.Test.YtdobimafhbfkhaaGreatOY12
import Derived.Test.YtdobimafhbfkhaaGreatOY28
import Derived.Test.YtdobimafhbfkhaaGreatOY29
import Derived.Test.YtdobimafhbfkhaaGreatOY11
set_option maxHeartbeats 64000000
namespace Go.Proofs.YtdobimafhbfkhaaGreat
open Go.ChangeShapes Go.WideShapes Go.ChangeAt Go.RowKit
set_option maxRecDepth 100000
set_option linter.unusedSimpArgs false
theorem rJ : ∀(k:Nat) (xs ys:List UInt8),xs.take k=ys.take k→k≤xs.length→k≤ys.length→Op.bytesLess xs ys=Op.bytesLess (xs.drop k) (ys.drop k)
 | 0,_,_,_,_,_=>rfl
 | k+1,[],_,_,h,_=>by simp at h
 | k+1,_::_,[],_,_,h=>by simp at h
 | k+1,x::xs,y::ys,h,h1,h2=>by
  simp only [List.take_succ_cons,List.cons.injEq]at h;obtain⟨rfl,h⟩:=h;have:=rJ k xs ys h (by simpa using h1) (by simpa using h2);simp only [List.drop_succ_cons];rw [←this];simp [Op.bytesLess]
theorem nE : ∀(xs:List UInt8),Op.bytesLess xs xs=false
 | []=>rfl
 | x::xs=>by simp [Op.bytesLess,nE xs]
theorem sY {xs ys:List UInt8}{k:Nat}{x y:UInt8}(h:xs.take k=ys.take k)(hx:xs[k]?=some x)(hy:ys[k]?=some y)(hlt:x<y):Op.bytesLess xs ys=true:=by
 have h1:=(FO.1 hx).1;have h2:=(FO.1 hy).1;rw [rJ k xs ys h (by omega) (by omega),List.drop_eq_getElem_cons h1,List.drop_eq_getElem_cons h2];rw [FP h1]at hx;rw [FP h2]at hy;rw [Option.some.inj hx,Option.some.inj hy];simp [Op.bytesLess,hlt]
theorem lJ (a b:ByteArray):eM a b=if Op.bytesLess a.data.toList b.data.toList then -1 else if a.data.toList=b.data.toList then 0 else 1:=by
 unfold eM;rw [ByteArray.toList_eq,ByteArray.toList_eq];by_cases h:a.data.toList=b.data.toList
 ·rw [h];simp
 ·rw [beq_eq_false_iff_ne.2 h,if_neg h];rfl
theorem sK {a b:ByteArray}{k:Nat}{x y:UInt8}(h:a.data.toList.take k=b.data.toList.take k)(hx:a.data.toList[k]?=some x)(hy:b.data.toList[k]?=some y)(hlt:x<y):eM a b = -1:=by
 rw [lJ,sY h hx hy hlt,if_pos rfl]
theorem cmpS_gt {a b:ByteArray}{k:Nat}{x y:UInt8}(h:a.data.toList.take k=b.data.toList.take k)(hx:a.data.toList[k]?=some x)(hy:b.data.toList[k]?=some y)(hlt:y<x):eM a b=1:=by
 rw [iO b a,sK h.symm hy hx hlt];rfl
theorem mr {a b:ByteArray}(h:a.data.toList.take a.size=b.data.toList.take a.size)(hl:a.size<b.size):eM a b = -1:=by
 have e1:a.data.toList.length=a.size:=by cases a;rfl
 have e2:b.data.toList.length=b.size:=by cases b;rfl
 rw [lJ,rJ a.size _ _ h (by omega) (by omega),Gk (by omega),List.drop_eq_getElem_cons (by omega)]
 rfl
theorem tX {a b:ByteArray}(h:a.data.toList.take b.size=b.data.toList.take b.size)(hl:b.size<a.size):eM a b=1:=by
 rw [iO b a,mr h.symm hl];rfl
theorem uh {a b:ByteArray}(h:a.data.toList.take a.size=b.data.toList.take a.size)(hl:a.size=b.size):eM a b=0:=by
 have e1:a.data.toList.length=a.size:=by cases a;rfl
 have e2:b.data.toList.length=b.size:=by cases b;rfl
 rw [FS (by omega),FS (by omega)]at h;rw [lJ,h,nE];simp
def Val.fits (v:Val):Prop:=v.s.size≤maxLen
theorem lE (a b:Val)(ha:a.fits)(hb:b.fits)(w:World):Calls Tryz.prog 81 #[a.v,b.v] w fun e w'=>e = .returned (.int .i64 (ai a b))∧Kept (fun _=>False) w w':=by
 obtain⟨at_,an,sa⟩:=a;obtain⟨bt,bn,sb⟩:=b;unfold Val.fits maxLen at ha hb;dsimp only at ha hb;obtain⟨w1,hw1⟩:∃w1,w1=w.alloc (.cells #[.bool at_,.int .i64 an,.string sa] 24):=⟨_,rfl⟩;obtain⟨w2,hw2⟩:∃w2,w2=w1.alloc (.cells #[.bool bt,.int .i64 bn,.string sb] 24):=⟨_,rfl⟩;have hk1:Kept (fun _=>False) w w1:=by rw [hw1];exact(Kept.refl _ _).alloc _
 have hk2:Kept (fun _=>False) w1 w2:=by rw [hw2];exact(Kept.refl _ _).alloc _
 have hb1:w1.heap[w.heap.size]?=some (.cells #[.bool at_,.int .i64 an,.string sa] 24 (0,0)):=by rw [hw1];exact ak w _
 have hb2:w2.heap[w1.heap.size]?=some (.cells #[.bool bt,.int .i64 bn,.string sb] 24 (0,0)):=by rw [hw2];exact ak w1 _
 have hsz:w1.heap.size=w.heap.size+1:=by rw [hw1];simp
 have HK:=FH (hk1.trans hk2 (fun _ h=>h.elim));have HA:=FH ((hk2.block _ (aw hb1) (fun h=>h)).trans hb1);have HB:=FH hb2;have HW:=FH (And.intro hw1 (And.intro hw2 hsz));clear hk1 hk2 hb1 hb2 hsz hw1 hw2;dsimp only [Val.v];go_enter Tryz.func81,Tryz.ntmps81;go_upto_region 1 with (fail)
 rw [←HW.out.1,←HW.out.2.1];rw [HW.out.2.2]at HB;clear HW
 revert HA HB
 generalize w.heap.size=ba;intro HA HB;obtain⟨x0,x1,x2,xf⟩:=aQ HA.out;obtain⟨y0,y1,y2,yf⟩:=aQ HB.out;rcases (show at_=false∨at_=true by cases at_<;>simp)with rfl|rfl<;>rcases (show bt=false∨bt=true by cases bt<;>simp)with rfl|rfl
 ·by_cases h1:an<bn
  ·go_wp2_with fail
   go_ret;exact⟨by simp [ai,js,h1],HK.out⟩
  ·by_cases h2:bn<an
   ·go_wp2_with fail
    go_ret;exact⟨by simp [ai,js,h1,h2],HK.out⟩
   ·have HV:=FH (show ai ⟨false,an,sa⟩ ⟨false,bn,sb⟩=0 by simp [ai,js,h1,h2])
    go_wp2_with fail;go_ret;exact⟨by rw [HV.out];rfl,HK.out⟩
 ·go_wp2_with fail
  go_ret;exact⟨by simp [ai],HK.out⟩
 ·go_wp2_with fail
  go_ret;exact⟨by simp [ai],HK.out⟩
 ·have e1:sa.data.toList.length=sa.size:=by cases sa;rfl
  have e2:sb.data.toList.length=sb.size:=by cases sb;rfl
  have zC:=FH e1;have As:=FH e2;have HC:=FH (show ai ⟨true,an,sa⟩ ⟨true,bn,sb⟩=eM sa sb by simp [ai]);clear e1 e2;generalize hna:sa.size=na at ha;generalize hnb:sb.size=nb at hb;go_wp2_with fail
  go_loopw [5] (fun i wr=>∃j:Nat,i = .int .i64 j∧j≤na∧j≤nb∧sa.data.toList.take j=sb.data.toList.take j∧∃n,wr=w2.drewN n) (fun i _=>na-(intOf i).toNat)
  case atStart=>exact⟨0,rfl,by omega,by omega,rfl,0,rfl⟩
  case round =>
   obtain⟨j,rfl,hj1,hj2,hte,n0,rfl⟩:=hrel;have HT:=FH hte;clear hte;by_cases hlt:j<na∧j<nb
   ·obtain⟨g1,g2⟩:=hlt
    have i1:(j:Int)<(na:Int):=by omega
    have i2:(j:Int)<(nb:Int):=by omega
    have s1:j<sa.size:=by omega
    have s2:j<sb.size:=by omega
    obtain⟨x,hx⟩:∃x,sa.data.toList[j]?=some x:=⟨_,FP (by have:=zC.out;omega)⟩;obtain⟨y,hy⟩:∃y,sb.data.toList[j]?=some y:=⟨_,FP (by have:=As.out;omega)⟩;have hx2:sa[j]=x:=by
     have:sa.data.toList[j]?=some sa[j]:=by
      cases sa;rw [Array.getElem?_toList];exact Array.getElem?_eq_getElem s1
     rw [hx]at this;exact(Option.some.inj this).symm
    have hy2:sb[j]=y:=by
     have:sb.data.toList[j]?=some sb[j]:=by
      cases sb;rw [Array.getElem?_toList];exact Array.getElem?_eq_getElem s2
     rw [hy]at this;exact(Option.some.inj this).symm
    have HX:=FH hx;have HY:=FH hy;clear hx hy;rcases (show x<y∨y<x∨x=y by
     rcases Nat.lt_trichotomy x.toNat y.toNat with h|h|h
     ·exact .inl h
     ·exact .inr (.inr (UInt8.toNat_inj.1 h))
     ·exact .inr (.inl h))with hxy|hxy|rfl
    ·have HR:=FH (sK HT.out HX.out HY.out hxy)
     have q1:(x.toNat:Int)<(y.toNat:Int):=by have:x.toNat<y.toNat:=hxy;omega
     go_wp2_with fail
     go_quiet (fail)
     go_wp2_with fail;go_ret;exact⟨by rw [HC.out,HR.out];rfl,(HK.out.drewN _).drewN _⟩
    ·have HR:=FH (cmpS_gt HT.out HX.out HY.out hxy)
     have q1:(y.toNat:Int)<(x.toNat:Int):=by have:y.toNat<x.toNat:=hxy;omega
     have q2:¬(x.toNat:Int)<(y.toNat:Int):=by omega
     go_wp2_with fail
     go_quiet (fail)
     go_wp2_with fail
     go_quiet (fail)
     go_wp2_with fail;go_ret;exact⟨by rw [HC.out,HR.out];rfl,((HK.out.drewN _).drewN _).drewN _⟩
    ·have q1:¬(x.toNat:Int)<(x.toNat:Int):=by omega
     go_wp2_with fail
     go_quiet (fail)
     go_wp2_with fail
     go_quiet (fail)
     go_wp2_with fail;go_roundw
     case rel=>exact⟨j+1,by go_num,by omega,by omega,gH HT.out HX.out HY.out,_,rfl⟩
     case measure=>simp [intOf];omega
   ·have HS:=FH (show eM sa sb=if na<nb then -1 else if nb<na then 1 else 0 by
     have ht:=HT.out;by_cases h1:na<nb
     ·rw [if_pos h1]
      exact mr (by rw [hna,show na=j by omega];exact ht) (by omega)
     ·rw [if_neg h1]
      by_cases h2:nb<na
      ·rw [if_pos h2]
       exact tX (by rw [hnb,show nb=j by omega];exact ht) (by omega)
      ·rw [if_neg h2]
       exact uh (by rw [hna,show na=j by omega];exact ht) (by omega))
    by_cases h1:na<nb
    ·have q1:(na:Int)<(nb:Int):=by omega
     have hcut:¬(j:Int)<(na:Int):=by omega
     go_wp2_with fail;go_ret;exact⟨by rw [HC.out,HS.out,if_pos h1];rfl,HK.out.drewN _⟩
    ·by_cases h2:nb<na
     ·have q1:¬(na:Int)<(nb:Int):=by omega
      have q2:(nb:Int)<(na:Int):=by omega
      have hc1:(j:Int)<(na:Int):=by omega
      have hcut:¬(j:Int)<(nb:Int):=by omega
      go_wp2_with fail;go_ret;exact⟨by rw [HC.out,HS.out,if_neg h1,if_pos h2];rfl,HK.out.drewN _⟩
     ·have q1:¬(na:Int)<(nb:Int):=by omega
      have q2:¬(nb:Int)<(na:Int):=by omega
      have hcut:¬(j:Int)<(na:Int):=by omega
      go_wp2_with fail;go_ret;exact⟨by rw [HC.out,HS.out,if_neg h1,if_neg h2];rfl,HK.out.drewN _⟩
theorem wy {w:World}(x:PredE){rv:Value}{r:List Val}(hop:3≤x.op∧x.op≤9)(hfv:x.v.fits)(hfw:x.op=9→x.w.fits)(hfr:∀v∈r,v.fits)(hr:em w rv r):Calls Tryz.prog 99 #[.agg x.cells.toArray,rv] w fun e w'=>e = .returned (.bool (dR x.op x.col x.v x.w r))∧Kept (fun _=>False) w w':=by
 obtain⟨W1,hW1,hk1,hb1⟩:∃W,W=w.alloc (.cells x.cells.toArray tPr)∧Kept (fun _=>False) w W∧W.heap[w.heap.size]?=some (.cells x.cells.toArray tPr (0,0)):=⟨_,rfl,(Kept.refl _ _).alloc _,ak _ _⟩;have wQ:=FH (hr.kept hk1 (fun _ _ h=>h));obtain⟨_,hml,ra,rc,rfl,hnc,hcm,_⟩:=id hr;unfold maxLen at hml hcm;have wM:=FH hW1;have wN:=FH hk1;have wL:=FH hb1;have EM:=FH hfv;have Dc:=FH hfw;clear hr hW1 hk1 hb1 hfv hfw;by_cases c1:x.col<0
 ·have HR:=FH (show dR x.op x.col x.v x.w r=false by unfold dR;rw [if_pos (.inl c1)])
  go_enter Tryz.func99,Tryz.ntmps99;go_upto_region 1 with fail
  rw [←wM.out];clear wM;generalize w.heap.size=b1 at wL ⊢;obtain⟨x0,x1,x2,x3,x4,x5,x6,x7,x8⟩:=cu wL.out;go_wp2_with fail;go_ret;exact⟨by rw [HR.out];rfl,wN.out⟩
 by_cases c2:(r.length:Int)≤x.col
 ·have HR:=FH (show dR x.op x.col x.v x.w r=false by unfold dR;rw [if_pos (.inr c2)])
  have c2':x.col ≥ (r.length:Int):=c2;go_enter Tryz.func99,Tryz.ntmps99;go_upto_region 1 with fail
  rw [←wM.out];clear wM;generalize w.heap.size=b1 at wL ⊢;obtain⟨x0,x1,x2,x3,x4,x5,x6,x7,x8⟩:=cu wL.out;go_wp2_with fail;go_ret;exact⟨by rw [HR.out];rfl,wN.out⟩
 obtain⟨k,hk⟩:∃k:Nat,x.col=(k:Int):=⟨x.col.toNat,by omega⟩;have hkl:k<r.length:=by omega
 have hkl2:(k:Int)<(r.length:Int):=by omega
 have hkn:¬((k:Int) ≥ (r.length:Int)):=by omega
 obtain⟨y,hy⟩:∃y,r[k]?=some y:=⟨r[k],FP hkl⟩;have Eh:=FH (hfr y (FQ hy));obtain⟨g,og,rfl⟩:∃g o,ra=some ⟨g,o,none⟩:=by
  rcases wQ.out.2.2 with ⟨_,_,hv,_,_,_,hc⟩
  cases hv;rcases hc with h0|⟨g,o,h,_⟩
  ·omega
  ·exact⟨g,o,h⟩
 have ye:=FH hk;have HY:=FH hy;obtain⟨c,hc⟩:∃c,ai y x.v=c:=⟨_,rfl⟩;obtain⟨d,hd⟩:∃d,ai y x.w=d:=⟨_,rfl⟩;have xi:=FH (show dR x.op x.col x.v x.w r=(if x.op=3 then decide (c=0)else if x.op=4 then !decide (c=0)else if x.op=5 then decide (c<0)else if x.op=6 then decide (c≤0)else if x.op=7 then decide (0<c)else if x.op=8 then decide (0≤c)else decide (0≤c)&&decide (d≤0)) by
  unfold dR;rw [if_neg (by omega)];have:r.getD x.col.toNat default=y:=by rw [hk,F6,FW,hy];rfl
  simp only [this,hc,hd])
 have xS:=FH (show ∀W,Calls Tryz.prog 81 #[y.v,x.v.v] W fun e w'=>e = .returned (.int .i64 c)∧Kept (fun _=>False) W w' from fun W=>hc▸lE y x.v Eh.out EM.out W);have BD:=FH (show x.op=9→∀W,Calls Tryz.prog 81 #[y.v,x.w.v] W fun e w'=>e = .returned (.int .i64 d)∧Kept (fun _=>False) W w' from fun h9 W=>hd▸lE y x.w Eh.out (Dc.out h9) W);clear c1 c2 hk hy hc hd hkl hfr Eh EM Dc;go_enter Tryz.func99,Tryz.ntmps99;go_upto_region 1 with fail
 rw [←wM.out];clear wM;generalize w.heap.size=b1 at wL ⊢;obtain⟨x0,x1,x2,x3,x4,x5,x6,x7,x8⟩:=cu wL.out;rw [ye.out]at x1;obtain⟨y0,y1,y2⟩:=jf wQ.out HY.out;go_upto_region 4 with fail
 obtain⟨W2,hW2,hk2,hb2⟩:∃W,W=W1.alloc (.cells #[.bool y.t,.int .i64 y.n,.string y.s] 24)∧Kept (fun _=>False) W1 W∧W.heap[W1.heap.size]?=some (.cells #[.bool y.t,.int .i64 y.n,.string y.s] 24 (0,0)):=⟨_,rfl,(Kept.refl _ _).alloc _,ak _ _⟩;rw [←hW2];have wV:=FH (wN.out.trans hk2 (fun _ h=>h.elim));have xP:=FH (aA hk2 wL.out);have Ei:=FH hb2;clear hW2 hk2 hb2 x0 x1 x2 x3 x4 x5 x6 x7 x8 y0 y1 y2 wL wN wQ;generalize W1.heap.size=b3 at *;obtain⟨x0,x1,x2,x3,x4,x5,x6,x7,x8⟩:=cu xP.out;obtain⟨y0,y1,y2,_⟩:=aQ Ei.out;have ze:=FH (xS.out W2);go_upto_region 5 with (go_at_call 81;refine ze.out.mono ?_;rintro e2 w2 ⟨rfl,hk2⟩;have xV:=FH hk2;clear hk2 ze x0 x1 x2 x3 x4 x5 x6 x7 x8 y0 y1 y2)
 obtain⟨x0,x1,x2,x3,x4,x5,x6,x7,x8⟩:=cu (aA xV.out xP.out);obtain⟨y0,y1,y2,_⟩:=aQ (aA xV.out Ei.out);have yh:=FH (wV.out.trans xV.out (fun _ h=>h.elim));clear wV xV xP Ei xS;have hp:x.op=3∨x.op=4∨x.op=5∨x.op=6∨x.op=7∨x.op=8∨x.op=9:=by omega
 clear hop;rcases hp with hp|hp|hp|hp|hp|hp|p9
 iterate 6
  ·have HO:=FH hp
   clear hp;rw [HO.out]at x0;go_wp2_with fail;go_ret;exact⟨by rw [xi.out,HO.out];simp [bne,Int.not_lt,beq_iff_eq];try rfl,yh.out⟩
 have HR:=FH (show dR x.op x.col x.v x.w r=(decide (0≤c)&&decide (d≤0)) by rw [xi.out,p9];rfl);have EN:=FH (BD.out p9 w2);rw [p9]at x0;clear p9;by_cases hc0:0≤c
 ·have hc1:c ≥ 0:=hc0
  go_wp2_with (go_at_call 81;refine EN.out.mono ?_;rintro e3 w3 ⟨rfl,hk3⟩;have xV:=FH (yh.out.trans hk3 (fun _ h=>h.elim));clear hk3 EN);go_ret;exact⟨by rw [HR.out];simp [hc0],xV.out⟩
 ·have hc1:¬c ≥ 0:=hc0
  go_wp2_with fail;go_ret;exact⟨by rw [HR.out,FY (Int.not_le.mpr hc0)];rfl,yh.out⟩
inductive PredFit : PredT→Prop
 | mk (op col:Int) (v w:Val) (l:List PredT) (hv:3≤op∧op≤9→v.fits) (hw:op=9→w.fits) (hl:∀q∈l,PredFit q):PredFit (.mk op col v w l)
def RHoldsC (w:World)(rv:Value)(e:PredE)(p:Bool):Prop:=∀W,Kept (fun _=>False) w W→Calls Tryz.prog 82 #[.agg e.cells.toArray,rv] W fun r W'=>r = .returned (.bool p)∧Kept (fun _=>False) W W'
def lQ (l:List Bool):Bool:=l.all id
def md (l:List Bool):Bool:=l.any id
def fY (l:List Bool):Bool:=l.headD false
theorem sU (l:List Bool)(b:Bool):lQ (l ++ [b])=(lQ l&&b):=by unfold lQ;simp
theorem tO (l:List Bool)(b:Bool):md (l ++ [b])=(md l||b):=by unfold md;simp
theorem kA {l:List Bool}{j:Nat}{b:Bool}(h:l[j]?=some b):l.take (j+1)=l.take j ++ [b]:=by rw [F3,h];rfl
theorem sX : ∀(p:PredT) (x:PredE) (w:World) (rv:Value) (r:List Val),x.p=p→PredFit p→(∀v∈r,v.fits)→PredsRd w (.slice x.la x.ln x.lc) x.subs→em w rv r →
  Calls Tryz.prog 82 #[.agg x.cells.toArray,rv] w fun e w'=>e = .returned (.bool (x.p.holds r))∧Kept (fun _=>False) w w':=by
 refine PredT.ind fun op col v w0 l ih x w rv r hx hfit hfr h1 h2=>?_;have hl:x.subs=l:=by unfold PredE.p at hx;cases hx;rfl
 have hxv:x.v=v:=by unfold PredE.p at hx;cases hx;rfl
 have hxw:x.w=w0:=by unfold PredE.p at hx;cases hx;rfl
 have hxo:x.op=op:=by unfold PredE.p at hx;cases hx;rfl
 obtain⟨hfv,hfw,hfl⟩:(3≤op∧op≤9→v.fits)∧(op=9→w0.fits)∧∀q∈l,PredFit q:=by cases hfit with|mk _ _ _ _ _ a b c=>exact⟨a,b,c⟩
 rw [←hxv,←hxo]at hfv;rw [←hxw,←hxo]at hfw;obtain⟨ra,rn,rc,rfl⟩:∃a n c,rv = .slice a n c:=by obtain⟨_,_,a,c,h,_⟩:=h2;exact⟨a,_,c,h⟩
 obtain⟨W1,hW1,hk1,hb1⟩:∃W,W=w.alloc (.cells x.cells.toArray tPr)∧Kept (fun _=>False) w W∧W.heap[w.heap.size]?=some (.cells x.cells.toArray tPr (0,0)):=⟨_,rfl,(Kept.refl _ _).alloc _,ak _ _⟩;obtain⟨es,he,hsub,hes⟩:∃es:List PredE,Rd W1 9 (.slice x.la x.ln x.lc) es.length (es.flatMap PredE.cells)∧x.subs=es.map PredE.p∧∀e∈es,RHoldsC W1 (.slice ra rn rc) e (e.p.holds r):=by
  have k1:=h1.kept hk1;have hr1:=h2.kept hk1 (fun _ _ h=>h);generalize hxs:x.subs=xs at k1 hl;cases k1 with
  | mk _ es he hes =>
   refine⟨es,he,rfl,fun e hee W hW=>?_⟩;have hm:e.p∈l:=by rw [←hl];exact List.mem_map.2 ⟨e,hee,rfl⟩
   exact ih e.p hm e W _ r rfl (hfl _ hm) hfr ((hes e hee).kept hW) (hr1.kept hW (fun _ _ h=>h))
 have HP:=FH (show x.p.holds r=_ from PredT.holds_eq x.op x.col x.v x.w x.subs r);rw [hsub]at HP;have Ct:=FH (h2.kept hk1 (fun _ _ h=>h));have wM:=FH hW1;have wN:=FH hk1;have wL:=FH hb1;obtain⟨_,hml,_,_,hsl,_⟩:=id he;unfold maxLen at hml;have yg:=FH (Value.slice.inj hsl).2.1;have HE:=FH he;have yX:=FH hes;have xi:=FH (show 3≤x.op∧x.op≤9→_ from fun h39=>wy (w:=W1) x h39 (hfv h39) hfw hfr Ct.out);clear h1 h2 hW1 hk1 hb1 hx hl ih he hes hsub hsl hfit hfv hfw hfl hxv hxw hxo hfr Ct;obtain⟨bs,hbs⟩:∃bs:List Bool,bs=es.map (fun e=>e.p.holds r):=⟨_,rfl⟩;have Co:=FH hbs;have Ci:=FH (show x.p.holds r=if x.op=1 then true else if 3≤x.op∧x.op≤9 then dR x.op x.col x.v x.w r else if x.op=10 then !(fY bs)else if x.op=11 then lQ bs else if x.op=12 then md bs else false by
  rw [HP.out,hbs];unfold fY lQ md;simp only [List.map_map,List.all_map,List.any_map,Function.comp_def,id])
 clear hbs HP;go_enter Tryz.func82,Tryz.ntmps82;go_upto_region 1 with fail
 rw [←wM.out];clear wM;generalize w.heap.size=b1 at wL ⊢;obtain⟨x0,x1,x2,x3,x4,x5,x6,x7,x8⟩:=cu wL.out;by_cases o2:3≤x.op∧x.op≤9
 ·have HL:=FH (dh (aj wL.out))
  have HR:=FH (show x.p.holds r=dR x.op x.col x.v x.w r by rw [Ci.out,if_neg (by omega),if_pos o2]);have g1:x.op ≥ 3:=o2.1;have g2:=o2.2;have Bm:=FH (xi.out o2);clear Ci yX HE xi;go_wp2_with (first|(refine aV rfl _ _ rfl _ _ rfl _ HL.out ?_)|(go_at_call 99;refine Bm.out.mono ?_;rintro e1 w1 ⟨rfl,hk2⟩;have wV:=FH (wN.out.trans hk2 (fun _ h=>h.elim));clear hk2 Bm HL x0 x1 x2 x3 x4 x5 x6 x7 x8));go_ret;exact⟨by rw [HR.out];rfl,wV.out⟩
 have Fp:=FH o2;clear xi;obtain⟨N,hN⟩:∃N,es.length=N:=⟨_,rfl⟩;have HN:=FH hN;rw [hN]at yg HE hml;have By:=FH (show bs.length=N by rw [Co.out,FZ,hN]);clear hN;have g:¬(x.op ≥ 3∧x.op≤9):=o2;rcases (show x.op<3∨(x.op ≥ 3∧9<x.op) by omega)with g1|⟨g1,g2⟩
 all_goals
  clear g o2;rw [yg.out]at x8;go_wp2_with fail
  go_loopw [5,6,7,8] (fun a s f i wr=>∃j:Nat,i = .int .i64 j∧a = .bool (lQ (bs.take j))∧s = .bool (md (bs.take j))∧f = .bool (fY (bs.take j))∧j≤N∧Kept (fun _=>False) W1 wr) (fun _ _ _ i _=>N-(intOf i).toNat)
  case atStart=>exact⟨0,rfl,rfl,rfl,rfl,by omega,Kept.refl _ _⟩
  case round =>
   obtain⟨j,rfl,rfl,rfl,rfl,hj,hk⟩:=hrel;have HK:=FH hk;clear hk x0 x1 x2 x3 x4 x5 x6 x7 x8;obtain⟨x0,_,_,_,_,_,_,_,x8⟩:=cu (aA HK.out wL.out);rw [yg.out]at x8;by_cases hlt:j<N
   ·have hji:(j:Int)<(N:Int):=by omega
    obtain⟨e,he⟩:∃e,es[j]?=some e:=⟨es[j]'(by rw [HN.out];exact hlt),FP _⟩;obtain⟨g1,o1,hg1,hr1⟩:=bi PredE.len (by have:=HE.out.kept HK.out (fun _ _ h=>h);rw [yg.out]at this;exact this) he HN.out;rw [hg1]at x8;have zj:=FH (dh (w:=wr) hr1);have HC:=FH (yX.out e (FQ he) wr HK.out);obtain⟨b,hb⟩:∃b,e.p.holds r=b:=⟨_,rfl⟩;rw [hb]at HC;have hbj:bs[j]?=some b:=by rw [Co.out,Gg,he,←hb];rfl
    have HA:=FH (show lQ (bs.take (j+1))=(lQ (bs.take j)&&b) by rw [kA hbj,sU]);have HY:=FH (show md (bs.take (j+1))=(md (bs.take j)||b) by rw [kA hbj,tO]);have HF:=FH (show fY (bs.take (j+1))=if j=0 then b else fY (bs.take j) by
     rw [kA hbj];rcases j with _|j
     ·rfl
     ·rcases bs with _|⟨b0,bs⟩
      ·cases hbj
      ·rfl)
    clear he hb hbj hg1 hr1;obtain⟨va,hva⟩:∃v,lQ (bs.take j)=v:=⟨_,rfl⟩;obtain⟨vs,hvs⟩:∃v,md (bs.take j)=v:=⟨_,rfl⟩;obtain⟨vf,hvf⟩:∃v,fY (bs.take j)=v:=⟨_,rfl⟩;rw [hva]at HA ⊢;rw [hvs]at HY ⊢;rw [hvf]at HF ⊢;clear hva hvs hvf;go_upto_region 10 with (first|(refine aV rfl _ _ rfl _ _ rfl _ zj.out ?_)|(go_at_call 82;refine HC.out.mono ?_;rintro r3 w3 ⟨rfl,hk3⟩;have xV:=FH (HK.out.trans hk3 (fun _ h=>h.elim));clear hk3 HC zj x0 x8))
    rcases j with _|j
    ·have Ej:=FH (show fY (bs.take (0+1))=b by rw [HF.out,if_pos rfl])
     clear HF;cases va<;>cases vs<;>cases b
     all_goals
      go_wp2_with fail;go_roundw
      case rel=>exact⟨0+1,by go_num,by rw [HA.out];rfl,by rw [HY.out];rfl,by rw [Ej.out],by omega,xV.out⟩
      case measure=>simp [intOf];omega
    ·have Ej:=FH (show fY (bs.take (j+1+1))=vf by rw [HF.out,if_neg (by omega)])
     clear HF;have hjz:(((j+1:Nat):Int) == 0)=false:=by simp;omega
     cases va<;>cases vs<;>cases b
     all_goals
      go_wp2_with fail;go_roundw
      case rel=>exact⟨j+1+1,by go_num,by rw [HA.out];rfl,by rw [HY.out];rfl,by rw [Ej.out],by omega,xV.out⟩
      case measure=>simp [intOf];omega
   ·have hji:¬((j:Int)<(N:Int)):=by omega
    obtain rfl:j=N:=by omega
    have HT:=FH (show bs.take j=bs from FS (Nat.le_of_eq By.out));rw [HT.out];have Cw:=FH (show x.p.holds r=if x.op=1 then true else if x.op=10 then !(fY bs)else if x.op=11 then lQ bs else if x.op=12 then md bs else false by rw [Ci.out,if_neg Fp.out]);obtain⟨va,hva⟩:∃v,lQ bs=v:=⟨_,rfl⟩;obtain⟨vs,hvs⟩:∃v,md bs=v:=⟨_,rfl⟩;obtain⟨vf,hvf⟩:∃v,fY bs=v:=⟨_,rfl⟩;rw [hva,hvs,hvf]at Cw ⊢;clear hva hvs hvf HT Ci;by_cases p1:x.op=1
    ·have HO:=FH p1
     rw [p1]at x0;clear p1 g1;go_wp2_with fail;go_ret;exact⟨by rw [Cw.out,HO.out];rfl,wN.out.trans HK.out (fun _ h=>h.elim)⟩
    by_cases p2:x.op=10
    ·have HO:=FH p2
     rw [p2]at x0;clear p1 p2 g1;go_wp2_with fail;go_ret;exact⟨by rw [Cw.out,HO.out];rfl,wN.out.trans HK.out (fun _ h=>h.elim)⟩
    by_cases p3:x.op=11
    ·have HO:=FH p3
     rw [p3]at x0;clear p1 p2 p3 g1;go_wp2_with fail;go_ret;exact⟨by rw [Cw.out,HO.out];rfl,wN.out.trans HK.out (fun _ h=>h.elim)⟩
    by_cases p4:x.op=12
    ·have HO:=FH p4
     rw [p4]at x0;clear p1 p2 p3 p4 g1;go_wp2_with fail;go_ret;exact⟨by rw [Cw.out,HO.out];rfl,wN.out.trans HK.out (fun _ h=>h.elim)⟩
    have q1:(x.op == 1)=false:=by simpa using p1
    have q2:(x.op == 10)=false:=by simpa using p2
    have q3:(x.op == 11)=false:=by simpa using p3
    have q4:(x.op == 12)=false:=by simpa using p4
    have HR:=FH (show x.p.holds r=false by rw [Cw.out,if_neg p1,if_neg p2,if_neg p3,if_neg p4]);clear p1 p2 p3 p4;go_wp2_with fail;go_ret;exact⟨by rw [HR.out];rfl,wN.out.trans HK.out (fun _ h=>h.elim)⟩
theorem sP {a b:Int}(ha:bO a)(hb:bO b)(w:World):Calls Tryz.prog 114 #[.int .i64 a,.int .i64 b] w fun e w'=>e = .returned (lN (a+b))∧Kept (fun _=>False) w w':=by
 obtain⟨c,hw⟩:∃c,wrap64 (a+b)=c:=⟨_,rfl⟩;have hc:(0≤a∧¬a<0∧0≤b∧¬b<0∧c<0∧¬0≤c∧¬bO (a+b))∨(0≤a∧¬a<0∧0≤b∧¬b<0∧0≤c∧¬c<0∧bO (a+b))∨(0≤a∧¬a<0∧b<0∧¬0≤b∧bO (a+b))∨(a<0∧¬0≤a∧0≤b∧¬b<0∧bO (a+b))∨(a<0∧¬0≤a∧b<0∧¬0≤b∧0≤c∧¬c<0∧¬bO (a+b))∨(a<0∧¬0≤a∧b<0∧¬0≤b∧c<0∧¬0≤c∧bO (a+b)):=by
  unfold bO at *;unfold wrap64 at hw;omega
 clear ha hb;rcases hc with ⟨h1,h2,h3,h4,h5,h6,h⟩|⟨h1,h2,h3,h4,h5,h6,h⟩|⟨h1,h2,h3,h4,h⟩|⟨h1,h2,h3,h4,h⟩|⟨h1,h2,h3,h4,h5,h6,h⟩|⟨h1,h2,h3,h4,h5,h6,h⟩
 all_goals
  first
  | rw [iT h]
  | (rw [eG h,(dP h).symm.trans hw])
  clear h;go_enter Tryz.func114,Tryz.ntmps114;go_wp2_with fail
  all_goals first|(go_ret2;exact⟨rfl,Kept.refl _ _⟩)|(exfalso;simp_all)
theorem rsub_ok {a b:Int}(ha:bO a)(hb:bO b)(w:World):Calls Tryz.prog 115 #[.int .i64 a,.int .i64 b] w fun e w'=>e = .returned (lN (a-b))∧Kept (fun _=>False) w w':=by
 obtain⟨c,hw⟩:∃c,wrap64 (a-b)=c:=⟨_,rfl⟩;have hc:(0≤a∧¬a<0∧b<0∧¬0≤b∧c<0∧¬0≤c∧¬bO (a-b))∨(0≤a∧¬a<0∧b<0∧¬0≤b∧0≤c∧¬c<0∧bO (a-b))∨(0≤a∧¬a<0∧0≤b∧¬b<0∧bO (a-b))∨(a<0∧¬0≤a∧b<0∧¬0≤b∧bO (a-b))∨(a<0∧¬0≤a∧0≤b∧¬b<0∧0≤c∧¬c<0∧¬bO (a-b))∨(a<0∧¬0≤a∧0≤b∧¬b<0∧c<0∧¬0≤c∧bO (a-b)):=by
  unfold bO at *;unfold wrap64 at hw;omega
 clear ha hb;rcases hc with ⟨h1,h2,h3,h4,h5,h6,h⟩|⟨h1,h2,h3,h4,h5,h6,h⟩|⟨h1,h2,h3,h4,h⟩|⟨h1,h2,h3,h4,h⟩|⟨h1,h2,h3,h4,h5,h6,h⟩|⟨h1,h2,h3,h4,h5,h6,h⟩
 all_goals
  first
  | rw [iT h]
  | (rw [eG h,(dP h).symm.trans hw])
  clear h;go_enter Tryz.func115,Tryz.ntmps115;go_wp2_with fail
  all_goals first|(go_ret2;exact⟨rfl,Kept.refl _ _⟩)|(exfalso;simp_all)
theorem sB {a:Int}(ha:bO a)(w:World):Calls Tryz.prog 129 #[.int .i64 a] w fun e w'=>e = .returned (.int .u64 (a.natAbs:Int))∧Kept (fun _=>False) w w':=by
 unfold bO at ha;by_cases h:0≤a
 ·have h2:¬a<0:=by omega
  obtain⟨n,hn⟩:∃n,((a.natAbs:Nat):Int)=n:=⟨_,rfl⟩;rw [hn];go_enter Tryz.func129,Tryz.ntmps129;go_wp2_with fail;go_ret;exact⟨by rw [show n=a by omega];rfl,Kept.refl _ _⟩
 ·have h2:a<0:=by omega
  obtain⟨n,hn⟩:∃n,((a.natAbs:Nat):Int)=n:=⟨_,rfl⟩;rw [hn];go_enter Tryz.func129,Tryz.ntmps129;go_wp2_with fail;go_ret;exact⟨by rw [show n = -(a+1)+1 by omega];rfl,Kept.refl _ _⟩
def farN (a b:Int):Nat:=if (decide (a<0) == decide (b<0))then 9223372036854775807 else 9223372036854775808
theorem far_iff (a b:Int):bO (a*b)↔a.natAbs*b.natAbs≤farN a b:=by
 rw [←Int.natAbs_mul];have hs:(a<0→b<0→0≤a*b)∧(0≤a→0≤b→0≤a*b)∧(a<0→0≤b→a*b≤0)∧(0≤a→b<0→a*b≤0) :=
  ⟨fun h1 h2=>Int.mul_nonneg_of_nonpos_of_nonpos (by omega) (by omega),fun h1 h2=>Int.mul_nonneg h1 h2,fun h1 h2=>Int.mul_nonpos_of_nonpos_of_nonneg (by omega) h2,fun h1 h2=>Int.mul_nonpos_of_nonneg_of_nonpos h1 (by omega)⟩
 generalize a*b=p at *;unfold bO farN;by_cases h1:a<0<;>by_cases h2:b<0<;>simp [h1,h2]<;>omega
theorem tL {a b:Int}(ha:bO a)(hb:bO b)(w:World):Calls Tryz.prog 116 #[.int .i64 a,.int .i64 b] w fun e w'=>e = .returned (lN (a*b))∧Kept (fun _=>False) w w':=by
 obtain⟨R,hR⟩:∃R,lN (a*b)=R:=⟨_,rfl⟩;rw [hR];have HR:=FH hR;clear hR;have HX:=FH (sB ha w);have HY:=FH (fun W=>sB hb W);have hf:=far_iff a b;obtain⟨X,hX⟩:∃n,a.natAbs=n:=⟨_,rfl⟩;obtain⟨Y,hY⟩:∃n,b.natAbs=n:=⟨_,rfl⟩;rw [hX]at HX hf;rw [hY]at HY hf;have HF:=FH hf;have Cu:=FH hY;clear ha hb hf hX hY;go_enter Tryz.func116,Tryz.ntmps116;go_upto_region 3 with (first|(go_at_call 129;refine HX.out.mono ?_;rintro e1 w1 ⟨rfl,hk1⟩;have wN:=FH hk1;clear hk1 HX)|(go_at_call 129;refine(HY.out _).mono ?_;rintro e2 w2 ⟨rfl,hk2⟩;have wV:=FH (wN.out.trans hk2 (fun _ h=>h.elim));clear hk2))
 clear HY;obtain⟨M,hM⟩:∃m,farN a b=m:=⟨_,rfl⟩;rw [hM]at HF;have HM:=FH hM;clear hM;obtain⟨Z,hZ⟩:∃z:Int,(M:Int)=z:=⟨_,rfl⟩;have hq:0<Y→(X*Y≤M↔¬Z / (Y:Int)<(X:Int)):=fun hy=>by
  rw [←hZ,←Nat.le_div_iff_mul_le hy,←Int.natCast_ediv];omega
 have hs:(0≤a∧¬a<0∧0≤b∧¬b<0∧Z=9223372036854775807)∨(0≤a∧¬a<0∧¬0≤b∧b<0∧Z=9223372036854775808)∨(¬0≤a∧a<0∧0≤b∧¬b<0∧Z=9223372036854775808)∨(¬0≤a∧a<0∧¬0≤b∧b<0∧Z=9223372036854775807):=by
  rw [←hZ,←HM.out];unfold farN;by_cases h1:a<0<;>by_cases h2:b<0<;>simp [h1,h2]<;>omega
 have HQ:=FH hq;clear HM hq hZ;rcases hs with ⟨a1,a2,b1,b2,rfl⟩|⟨a1,a2,b1,b2,rfl⟩|⟨a1,a2,b1,b2,rfl⟩|⟨a1,a2,b1,b2,rfl⟩
 all_goals
  go_upto_region 7 with fail
  clear a1 a2 b1 b2;by_cases hy:Y=0
  ·subst hy
   have H9:=FH (HF.out.2 (by rw [Nat.mul_zero];exact Gp _));go_wp2_with fail
   go_ret2
   exact⟨by rw [←HR.out,eG H9.out];first|rfl|(rw [dP H9.out];rfl),wV.out⟩
  ·have hy2:(0:Int)<(Y:Int):=by omega
   have hq:=HQ.out (by omega);by_cases h9:bO (a*b)
   ·have hn:=hq.1 (HF.out.1 h9)
    have H9:=FH h9;clear h9 hq;go_wp2_with fail
    go_ret2
    exact⟨by rw [←HR.out,eG H9.out];first|rfl|(rw [dP H9.out];rfl),wV.out⟩
   ·have hn:=Classical.byContradiction fun h=>h9 (HF.out.2 (hq.2 h))
    have H9:=FH h9;clear h9 hq;go_wp2_with fail
    go_ret2
    exact⟨by rw [←HR.out,iT H9.out];rfl,wV.out⟩
end Go.Proofs.YtdobimafhbfkhaaGreat
