/- The document's answer: is a column one of numbers, may a set be (ratlineref02.number, set), and what follows. -/
import Derived.Test.YtdobimafhbfkhaaGreatOY38
import Derived.Test.YtdobimafhbfkhaaGreatOY10
import Derived.Test.YtdobimafhbfkhaaGreatOY7
set_option maxHeartbeats 64000000
namespace Go.Proofs.YtdobimafhbfkhaaGreat
open Go.ChangeShapes Go.WideShapes Go.ChangeAt Go.RowKit
set_option maxRecDepth 100000
set_option linter.unusedSimpArgs false
def ng (c:List Bool)(i:Int):Bool:=decide (bK c i=1)
theorem me {c:List Bool}{k:Nat}{y:Bool}(hy:c[k]?=some y):bK c (k:Int)=if y then 2 else 1:=by
 have hlt:=(FO.1 hy).1;unfold bK;rw [if_neg (by omega),FW,F6,hy]
 rfl
theorem iu {c:List Bool}{i:Int}(h:i<0∨(c.length:Int)≤i):bK c i=0:=by unfold bK;rw [if_pos h]
theorem rZ {w:World}{cv:Value}{c:List Bool}(i:Int)(hc:fH w cv c) :
  Calls Tryz.prog 64 #[.agg #[cv],.int .i64 i] w fun e w'=>e = .returned (.bool (ng c i))∧Kept (fun _=>False) w w':=by
 have HK:=FH (show Kept (fun _=>False) w (w.alloc (.cells #[cv] bN))from(Kept.refl _ _).alloc _);have HC:=FH (Rd.kept hc HK.out (fun _ _ h=>h));obtain⟨_,m1,ao,cap,rfl,_⟩:=hc;unfold maxLen at m1;obtain⟨r,hr⟩:∃r,ng c i=r:=⟨_,rfl⟩;rw [hr];have HR:=FH hr;clear hr;by_cases h0:i<0
 ·obtain rfl:r=false:=by rw [←HR.out];unfold ng;rw [iu (.inl h0)];rfl
  go_enter Tryz.func64,Tryz.ntmps64;go_wp2_with fail;go_ret;exact⟨rfl,HK.out⟩
 by_cases h1:(c.length:Int)≤i
 ·obtain rfl:r=false:=by rw [←HR.out];unfold ng;rw [iu (.inr h1)];rfl
  go_enter Tryz.func64,Tryz.ntmps64;go_wp2_with fail;go_ret;exact⟨rfl,HK.out⟩
 obtain⟨k,rfl⟩:∃k:Nat,i=(k:Int):=⟨i.toNat,by omega⟩;obtain⟨y,hy⟩:∃y,c[k]?=some y:=⟨c[k]'(by omega),FP _⟩;obtain⟨cg,cog,rfl⟩:=fq HC.out hy rfl;have hcc:=dZ HC.out hy;obtain rfl:r = !y:=by rw [←HR.out];unfold ng;rw [me hy];cases y<;>rfl
 generalize hN:c.length=N at *;have h3:(k:Int)<(N:Int):=by omega
 clear HC hy hN HR;go_enter Tryz.func64,Tryz.ntmps64;go_wp2_with fail;go_ret;exact⟨rfl,HK.out⟩
theorem rset_ok {w:World}{cv:Value}{c:List Bool}(s:SetM)(hc:fH w cv c) :
  Calls Tryz.prog 44 #[.agg #[cv],.agg s.cells.toArray] w fun e w'=>e = .returned (.bool (bH c s))∧Kept (fun _=>False) w w':=by
 obtain⟨W1,hW1,hk1,hb1,hb2⟩:=pw w #[cv] s.cells.toArray bN kl;have HC:=FH (Rd.kept hc hk1 (fun _ _ h=>h));obtain⟨_,m1,ao,cap,rfl,_⟩:=hc;have wM:=FH hW1;have wN:=FH hk1;have wL:=FH hb1;have wX:=FH hb2;have HR:=FH (i7 s.v W1);have HN:=FH (show ∀(j:Int) (W:World),Kept (fun _=>False) W1 W→Calls Tryz.prog 64 #[.agg #[.slice ao c.length cap],.int .i64 j] W fun e w'=>e = .returned (.bool (ng c j))∧Kept (fun _=>False) W w' from fun j W k=>rZ j (Rd.kept HC.out k (fun _ _ h=>h)));obtain⟨rr,hrr⟩:∃rr,bH c s=rr:=⟨_,rfl⟩;rw [hrr];have xD:=FH hrr;obtain⟨rv,hrv⟩:∃rv,am s.v=rv:=⟨_,rfl⟩;rw [hrv]at HR;have Aw:=FH hrv;clear hW1 hk1 hb1 hb2 hrr hrv;unfold maxLen at m1;go_enter Tryz.func44,Tryz.ntmps44;go_upto_region 1 with fail
 rw [←wM.out];clear wM;generalize w.heap.size+1=b2 at *;generalize w.heap.size=b1 at *;obtain⟨x0,x1,x2,x3,x4,x5,x6⟩:=bP wX.out;obtain⟨t0,tf⟩:=aC wL.out;by_cases h1:s.col<1
 ·obtain rfl:rr=false:=by rw [←xD.out];unfold bH;rw [if_pos (.inl h1)]
  go_wp2_with fail;go_ret;exact⟨rfl,wN.out⟩
 by_cases h2:(c.length:Int)≤s.col
 ·obtain rfl:rr=false:=by rw [←xD.out];unfold bH;rw [if_pos (.inr (iu (.inr h2)))]
  go_wp2_with fail;go_ret;exact⟨rfl,wN.out⟩
 obtain⟨k,hk⟩:∃k:Nat,s.col=(k:Int):=⟨s.col.toNat,by omega⟩;obtain⟨y,hy⟩:∃y,c[k]?=some y:=⟨c[k]'(by omega),FP _⟩;have hkd:=me hy;have hcol:¬(s.col<1∨bK c s.col=0):=by rw [hk,hkd];cases y<;>simp<;>omega
 have EJ:=FH (show bK c s.col=if y then 2 else 1 by rw [hk];exact hkd);have xw:=FH hcol;have HY:=FH hy;have yG:=FH hk;rw [hk]at x0 h1 h2;clear hkd hcol hy hk;go_upto_region 4 with (go_at_call 26;refine HR.out.mono ?_;rintro e1 w1 ⟨rfl,hk1⟩;have xY:=FH hk1;have wV:=FH (wN.out.trans hk1 (fun _ h=>h.elim));clear hk1 HR x0 x1 x2 x3 x4 x5 x6 t0 tf)
 obtain⟨x0,x1,x2,x3,x4,x5,x6⟩:=bP (aA xY.out wX.out);obtain⟨t0,tf⟩:=aC (aA xY.out wL.out);rw [yG.out]at x0;by_cases o1:s.op=1
 ·rw [o1]at x1
  have HV:=FH (show bH c s=(rv&&decide (s.v.t=y)) by
   unfold bH;rw [if_neg xw.out,if_pos o1,EJ.out,Aw.out];cases y<;>rfl)
  obtain⟨cg,cog,rfl⟩:=fq HC.out HY.out rfl;have hcc:=dZ (Rd.kept HC.out xY.out.drew (fun _ _ h=>h)) HY.out;generalize hCN:c.length=N at *;have h3:(k:Int)<(N:Int):=by omega
  clear o1 HC HN;go_upto_region 6 with fail
  cases rv
  ·refine aH [rq 0 999,rq 1 999,rq 2 999,rq 3 999,rq 4 999,rq 5 999,rq 6 999,rq 7 999,rq 8 999,rq 9 999,rq 10 999,rq 11 999,rq 12 999,rq 13 999] ?_
   iterate 14 (first|(refine ax rfl rfl ?_;simp only [Act.put,FI,FJ,FK,FL,FM,FN])|((first|refine ae rfl rfl (fun K hK=>?_)|refine ar rfl rfl fun K hK=>?_);go_simp;apply hK;clear hK K))
   refine ag ?_;go_wp2_with fail;go_ret;exact⟨by rw [←xD.out,HV.out];rfl,wV.out.drew⟩
  ·by_cases h4:s.v.t=y
   ·rw [h4]at x4 HV
    refine aH [rq 0 999,rq 1 999,rq 2 999,rq 3 999,rq 4 999,rq 5 999,rq 6 999,rq 7 999,rq 8 999,rq 9 999,rq 10 999,rq 11 999,rq 12 999,rq 13 999] ?_;(iterate 14 (first|(refine ax rfl rfl ?_;simp only [Act.put,FI,FJ,FK,FL,FM,FN])|((first|refine ae rfl rfl (fun K hK=>?_)|refine ar rfl rfl fun K hK=>?_);go_simp;apply hK;clear hK K)));refine ag ?_;go_wp2_with fail;go_ret;exact⟨by rw [←xD.out,HV.out];simp,wV.out.drew⟩
   ·have h5:(s.v.t == y)=false:=by simpa using h4
    refine aH [rq 0 999,rq 1 999,rq 2 999,rq 3 999,rq 4 999,rq 5 999,rq 6 999,rq 7 999,rq 8 999,rq 9 999,rq 10 999,rq 11 999,rq 12 999,rq 13 999] ?_;(iterate 14 (first|(refine ax rfl rfl ?_;simp only [Act.put,FI,FJ,FK,FL,FM,FN])|((first|refine ae rfl rfl (fun K hK=>?_)|refine ar rfl rfl fun K hK=>?_);go_simp;apply hK;clear hK K)));refine ag ?_;go_wp2_with fail;go_ret;exact⟨by rw [←xD.out,HV.out,FY h4];rfl,wV.out.drew⟩
 by_cases o2:s.op=2
 ·rw [o2]at x1
  have HV:=FH (show bH c s=decide (bK c s.frm=if y then 2 else 1) by
   unfold bH;rw [if_neg xw.out,if_neg o1,if_pos o2,EJ.out])
  obtain⟨cg,cog,rfl⟩:=fq HC.out HY.out rfl;have ze:=FH (Rd.kept HC.out xY.out.drew (fun _ _ h=>h));have hcc:=dZ ze.out HY.out;go_upto_region 8 with fail
  by_cases f0:s.frm<0
  ·have f1:¬(0≤s.frm):=by omega
   have yz:=FH (show bH c s=false by rw [HV.out,iu (.inl f0)];cases y<;>rfl);clear o1 o2 ze HC HN;refine aH [rq 0 999,rq 1 999,rq 2 999,rq 3 999,rq 4 999,rq 5 999,rq 6 999,rq 7 999,rq 8 999,rq 9 999,rq 10 999,rq 11 999,rq 12 999,rq 13 999,rq 14 999,rq 15 999,rq 16 999,rq 17 999,rq 18 999,rq 19 999,rq 20 999,rq 21 999,rq 22 999,rq 23 999,rq 24 999,rq 25 999,rq 26 999] ?_;iterate 27 (first|(refine ax rfl rfl ?_;simp only [Act.put,FI,FJ,FK,FL,FM,FN])|((first|refine ae rfl rfl (fun K hK=>?_)|refine ar rfl rfl fun K hK=>?_);go_simp;apply hK;clear hK K))
   refine ag ?_;go_wp2_with fail;go_ret;exact⟨by rw [←xD.out,yz.out];rfl,wV.out.drew⟩
  by_cases f2:(c.length:Int)≤s.frm
  ·have f1:0≤s.frm:=by omega
   have f3:¬(s.frm<(c.length:Int)):=by omega
   have yz:=FH (show bH c s=false by rw [HV.out,iu (.inr f2)];cases y<;>rfl);clear o1 o2 ze HC HN;refine aH [rq 0 999,rq 1 999,rq 2 999,rq 3 999,rq 4 999,rq 5 999,rq 6 999,rq 7 999,rq 8 999,rq 9 999,rq 10 999,rq 11 999,rq 12 999,rq 13 999,rq 14 999,rq 15 999,rq 16 999,rq 17 999,rq 18 999,rq 19 999,rq 20 999,rq 21 999,rq 22 999,rq 23 999,rq 24 999,rq 25 999,rq 26 999] ?_;iterate 27 (first|(refine ax rfl rfl ?_;simp only [Act.put,FI,FJ,FK,FL,FM,FN])|((first|refine ae rfl rfl (fun K hK=>?_)|refine ar rfl rfl fun K hK=>?_);go_simp;apply hK;clear hK K))
   refine ag ?_;go_wp2_with fail;go_ret;exact⟨by rw [←xD.out,yz.out];rfl,wV.out.drew⟩
  obtain⟨j,hj⟩:∃j:Nat,s.frm=(j:Int):=⟨s.frm.toNat,by omega⟩;obtain⟨z,hz⟩:∃z,c[j]?=some z:=⟨c[j]'(by omega),FP _⟩;have hcz:=dZ ze.out hz;have yz:=FH (show bH c s=decide (z=y) by rw [HV.out,hj,me hz];cases z<;>cases y<;>rfl);rw [hj]at x2;generalize hCN:c.length=N at *;have h3:(k:Int)<(N:Int):=by omega
  have h4:(j:Int)<(N:Int):=by omega
  clear o1 o2 ze HC HN hz hj f0 f2;by_cases h5:z=y
  ·subst h5
   refine aH [rq 0 999,rq 1 999,rq 2 999,rq 3 999,rq 4 999,rq 5 999,rq 6 999,rq 7 999,rq 8 999,rq 9 999,rq 10 999,rq 11 999,rq 12 999,rq 13 999,rq 14 999,rq 15 999,rq 16 999,rq 17 999,rq 18 999,rq 19 999,rq 20 999,rq 21 999,rq 22 999,rq 23 999,rq 24 999,rq 25 999,rq 26 999] ?_;iterate 27 (first|(refine ax rfl rfl ?_;simp only [Act.put,FI,FJ,FK,FL,FM,FN])|((first|refine ae rfl rfl (fun K hK=>?_)|refine ar rfl rfl fun K hK=>?_);go_simp;apply hK;clear hK K))
   refine ag ?_;go_wp2_with fail;go_ret;exact⟨by rw [←xD.out,yz.out];simp,wV.out.drew⟩
  ·have h6:(z == y)=false:=by simpa using h5
   refine aH [rq 0 999,rq 1 999,rq 2 999,rq 3 999,rq 4 999,rq 5 999,rq 6 999,rq 7 999,rq 8 999,rq 9 999,rq 10 999,rq 11 999,rq 12 999,rq 13 999,rq 14 999,rq 15 999,rq 16 999,rq 17 999,rq 18 999,rq 19 999,rq 20 999,rq 21 999,rq 22 999,rq 23 999,rq 24 999,rq 25 999,rq 26 999] ?_;iterate 27 (first|(refine ax rfl rfl ?_;simp only [Act.put,FI,FJ,FK,FL,FM,FN])|((first|refine ae rfl rfl (fun K hK=>?_)|refine ar rfl rfl fun K hK=>?_);go_simp;apply hK;clear hK K))
   refine ag ?_;go_wp2_with fail;go_ret;exact⟨by rw [←xD.out,yz.out,FY h5];rfl,wV.out.drew⟩
 obtain⟨n1,hn1⟩:∃n,ng c s.col=n:=⟨_,rfl⟩;obtain⟨n2,hn2⟩:∃n,ng c s.frm=n:=⟨_,rfl⟩;obtain⟨n3,hn3⟩:∃n,ng c s.oth=n:=⟨_,rfl⟩;have H1:=FH (show ng c (k:Int)=n1 by rw [←yG.out];exact hn1);have H2:=FH hn2;have H3:=FH hn3;by_cases o3:s.op=3∨s.op=4∨s.op=5
 ·have HV:=FH (show bH c s=(n1&&n2&&rv && !s.v.t) by
   unfold bH;rw [if_neg xw.out,if_neg o1,if_neg o2,if_pos o3,←hn1,←hn2,←Aw.out]
   rfl)
  clear hn1 hn2 hn3 o1 o2 HC;rcases o3 with o3|o3|o3
  all_goals
   rw [o3]at x1;clear o3;go_upto_region 12 with fail
   cases n1<;>cases n2<;>cases rv
   all_goals
    go_wp2_with (go_at_call 64;refine(HN.out _ _ xY.out).mono ?_;(first|(rw [H1.out])|(rw [H2.out])|(rw [H3.out]));rintro e3 w3 ⟨rfl,hk3⟩;replace xY:=FH (xY.out.trans hk3 (fun _ h=>h.elim));clear hk3 x0 x1 x2 x3 x4 x5 x6 t0 tf;obtain⟨x0,x1,x2,x3,x4,x5,x6⟩:=bP (aA xY.out wX.out);obtain⟨t0,tf⟩:=aC (aA xY.out wL.out));go_ret;exact⟨by rw [←xD.out,HV.out];rfl,wN.out.trans xY.out (fun _ h=>h.elim)⟩
 have e3:(s.op == 3)=false:=by simp;omega
 have e4:(s.op == 4)=false:=by simp;omega
 have e5:(s.op == 5)=false:=by simp;omega
 by_cases o6:s.op=6
 ·have HV:=FH (show bH c s=(n1&&n2&&n3) by
   unfold bH;rw [if_neg xw.out,if_neg o1,if_neg o2,if_neg o3,if_pos o6,←hn1,←hn2,←hn3]
   rfl)
  clear hn1 hn2 hn3 o1 o2 o3 e3 e4 e5 HC;rw [o6]at x1;clear o6;go_upto_region 14 with fail
  cases n1<;>cases n2<;>cases n3
  all_goals
   go_wp2_with (go_at_call 64;refine(HN.out _ _ xY.out).mono ?_;(first|(rw [H1.out])|(rw [H2.out])|(rw [H3.out]));rintro e3 w3 ⟨rfl,hk3⟩;replace xY:=FH (xY.out.trans hk3 (fun _ h=>h.elim));clear hk3 x0 x1 x2 x3 x4 x5 x6 t0 tf;obtain⟨x0,x1,x2,x3,x4,x5,x6⟩:=bP (aA xY.out wX.out);obtain⟨t0,tf⟩:=aC (aA xY.out wL.out));go_ret;exact⟨by rw [←xD.out,HV.out];rfl,wN.out.trans xY.out (fun _ h=>h.elim)⟩
 ·have e1:(s.op == 1)=false:=by simpa using o1
  have e2:(s.op == 2)=false:=by simpa using o2
  have e6:(s.op == 6)=false:=by simpa using o6
  obtain rfl:rr=false:=by
   rw [←xD.out];unfold bH;rw [if_neg xw.out,if_neg o1,if_neg o2,if_neg o3,if_neg o6]
  clear hn1 hn2 hn3 o1 o2 o3 o6 HC;go_wp2_with fail;go_ret;exact⟨rfl,wV.out⟩
theorem lM {w:World}{cv sv:Value}{c:List Bool}{l:List SetM}(hm:cj c=true)(hc:fH w cv c)(hr:vA w sv l) :
  Calls Tryz.prog 28 #[.agg #[cv],sv] w fun e w'=>e = .returned (.bool (cG c l))∧Kept (fun _=>False) w w':=by
 have hk1:Kept (fun _=>False) w (w.alloc (.cells #[cv] bN)):=(Kept.refl _ _).alloc _;have hb1:(w.alloc (.cells #[cv] bN)).heap[w.heap.size]?=some (.cells #[cv] bN (0,0)):=ak w _;have A3:=FH hc;have BL:=FH (show Rd w 7 sv l.length (l.flatMap SetM.cells)from hr);have wN:=FH hk1;have wL:=FH hb1;obtain⟨-,m2,ro,rcap,rfl,-⟩:=hr;obtain⟨N,hN⟩:∃N,l.length=N:=⟨_,rfl⟩;obtain⟨sr,hsr⟩:∃b,cG c l=b:=⟨_,rfl⟩;rw [hsr];have Av:=FH hsr;unfold maxLen at m2;rw [hN]at BL m2 ⊢;have HN:=FH hN;have HM:=FH hm;clear hk1 hb1 hc hsr hN hm;go_enter Tryz.func28,Tryz.ntmps28;go_upto_region 1 with fail
 obtain⟨W,hW⟩:∃W,W=w.alloc (.cells #[cv] bN):=⟨_,rfl⟩;rw [←hW]at wN wL ⊢;generalize w.heap.size=bt at wL ⊢;clear hW;by_cases hl:N≤3
 case neg =>
  have hl2:(N:Int) > 3:=by omega
  obtain rfl:sr=false:=by
   rw [←Av.out];unfold cG;rw [HN.out,FY hl,Bool.and_false]
   rfl
  go_wp2_with fail;go_ret;exact⟨rfl,wN.out⟩
 have hl2:¬((N:Int) > 3):=by omega
 have yI:=FH (mB (c:=c) (l:=l) HM.out (by rw [HN.out];exact hl));rw [Av.out]at yI;go_wp2_with fail
 go_loopw [5] (fun iv wr=>∃i:Nat,iv = .int .i64 i∧i≤N∧eJ c (l.take i)=true∧Kept (fun _=>False) W wr) (fun iv _=>N-(intOf iv).toNat)
 case atStart=>exact⟨0,rfl,Gp _,rfl,Kept.refl _ _⟩
 case round =>
  obtain⟨i,rfl,hi,hok,hkr⟩:=hrel;have yn:=FH hok;have HK:=FH hkr;have AE:=FH (wN.out.trans hkr (fun _ h=>h.elim));clear hok hkr;by_cases hlt:i<N
  ·have hii:(i:Int)<(N:Int):=by omega
   obtain⟨x,hx⟩:∃x,l[i]?=some x:=⟨l[i]'(by rw [HN.out];exact hlt),FP _⟩;have zD:=FH (show eJ c (l.take (i+1))=(bH c x && !decide (x.col∈(l.take i).map SetM.col)) by rw [F3,hx,Option.toList_some,du,yn.out];rfl);obtain⟨sg,so,hsa,hrg⟩:=bi SetM.len (Rd.kept BL.out AE.out (fun _ _ h=>h)) hx HN.out;subst hsa;have zg:=FH (lD (show wr.drew.rangeAt sg (so+i*7) x.cells from hrg));have HX:=FH hx;have xm:=FH (rset_ok x (Rd.kept A3.out AE.out.drew (fun _ _ h=>h)));obtain⟨b0,bf⟩:=aC (aA HK.out.drew wL.out);obtain⟨ms,hms⟩:∃m,bH c x=m:=⟨_,rfl⟩;rw [hms]at xm zD;clear hx hrg hms;go_upto_region 6 with fail
   refine aH [rq 0 5,rq 1 5,rq 2 5,rq 3 5,rq 4 5,(5,true,0),rq 6 999] ?_;iterate 5 (refine ae rfl rfl fun K hK=>?_;(first|((refine bF _ _ rfl _ _ rfl _ zg.out ?_);go_simp)|go_simp);apply hK;clear hK K)
   refine af rfl ?_;refine al rfl fun K hK=>?_;go_simp;refine xm.out.mono ?_;rintro e3 w3 ⟨rfl,hk3⟩;have xV:=FH (HK.out.drew.trans hk3 (fun _ h=>h.elim));have BE:=FH (AE.out.drew.trans hk3 (fun _ h=>h.elim));clear hk3 xm b0 bf zg;refine hK _ _ ?_;clear hK K;refine wpList_nil ?_;apply And.intro
   ·go_simp
   refine ae rfl rfl fun K hK=>?_;(first|((refine bF _ _ rfl _ _ rfl _ zg.out ?_);go_simp)|go_simp);apply hK;clear hK K;refine ag ?_;cases ms with
   | false =>
    obtain rfl:sr=false:=by rw [yI.out];exact jy (i+1) zD.out
    go_wp2_with fail;go_ret;exact⟨rfl,BE.out⟩
   | true =>
    go_upto_region 9 with fail
    go_wp2_with fail
    go_loopw [7] (fun kv wq=>∃k:Nat,kv = .int .i64 k∧k≤i∧x.col ∉ (l.take k).map SetM.col∧Kept (fun _=>False) w3 wq) (fun kv _=>i-(intOf kv).toNat)
    case atStart=>exact⟨0,rfl,Gp _,(by simp),Kept.refl _ _⟩
    case round =>
     obtain⟨k,rfl,hk,hno,hkq⟩:=hrel;have yw:=FH hno;have EK:=FH hkq;have Eg:=FH (BE.out.trans hkq (fun _ h=>h.elim));clear hno hkq;by_cases hlt2:k<i
     ·have hki:(k:Int)<(i:Int):=by omega
      obtain⟨y,hy⟩:∃y,l[k]?=some y:=⟨l[k]'(by rw [HN.out];omega),FP _⟩;have HY:=FH hy;obtain⟨g1,o1,e1,r1⟩:=bi SetM.len (Rd.kept BL.out Eg.out.drew (fun _ _ h=>h)) hy HN.out;obtain⟨g2,o2,e2,r2⟩:=bi SetM.len (Rd.kept BL.out Eg.out.drew (fun _ _ h=>h)) HX.out HN.out;cases e1;cases e2;have y0:=r1 0 _ rfl;have z0:=r2 0 _ rfl;rw [Nat.add_zero]at y0 z0;have hkn:(k:Int)<(N:Int):=by omega
      clear hy r1 r2;go_upto_region 12 with fail
      by_cases hq:y.col=x.col
      ·rw [hq]at y0
       obtain rfl:sr=false:=by
        rw [yI.out];refine jy (i+1) ?_;rw [zD.out];have hmem:x.col∈(l.take i).map SetM.col:=List.mem_map.2 ⟨y,FQ (by rw [List.getElem?_take,if_pos hlt2];exact HY.out),hq⟩;rw [F5 hmem]
        rfl
       clear hq;refine aH [rq 0 999,rq 1 999,rq 2 999,rq 3 999,rq 4 999,rq 5 999,rq 6 999,rq 7 999,rq 8 999,rq 9 999,rq 10 999] ?_;(iterate 11 (refine ae rfl rfl fun K hK=>?_;go_simp;apply hK;clear hK K));refine ag ?_;go_wp2_with fail;go_ret;exact⟨rfl,Eg.out.drew⟩
      ·have hne:(y.col == x.col)=false:=by simpa using hq
       have De:=FH (show x.col ∉ (l.take (k+1)).map SetM.col by
        rw [F3,HY.out,Option.toList_some,List.map_append,List.map_singleton];intro hm;rcases F2.1 hm with hm|hm
        ·exact yw.out hm
        ·exact hq (List.mem_singleton.1 hm).symm)
       clear hq;refine aH [rq 0 999,rq 1 999,rq 2 999,rq 3 999,rq 4 999,rq 5 999,rq 6 999,rq 7 999,rq 8 999,rq 9 999,rq 10 999] ?_;(iterate 11 (refine ae rfl rfl fun K hK=>?_;go_simp;apply hK;clear hK K));refine ag ?_;go_wp2_with fail;go_roundw
       case rel=>exact⟨k+1,by go_num,by omega,De.out,EK.out.drew⟩
       case measure=>simp [intOf];omega
     ·obtain rfl:k=i:=by omega
      have hki:¬((k:Int)<(k:Int)):=by omega
      have De:=FH (show eJ c (l.take (k+1))=true by rw [zD.out,FY yw.out];rfl);go_wp2_with fail;go_roundw
      case rel=>exact⟨k+1,by go_num,by omega,De.out,xV.out.trans EK.out (fun _ h=>h.elim)⟩
      case measure=>simp [intOf];omega
  ·obtain rfl:i=N:=by omega
   have hii:¬((i:Int)<(i:Int)):=by omega
   obtain rfl:sr=true:=by rw [yI.out,←FS (Nat.le_of_eq HN.out)];exact yn.out
   go_wp2_with fail;go_ret;exact⟨rfl,AE.out⟩
end Go.Proofs.YtdobimafhbfkhaaGreat
