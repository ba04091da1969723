/- Joined texts: The document's answer: is a column one of numbers, may a set be (ratlineref02.number, set). The document's answer: may an update be (ratlineref02.Sets). -/
import Derived.Test.YtdobimafhbfkhaaGreatOT48
import Derived.Test.YtdobimafhbfkhaaGreatOT12
import Derived.Test.YtdobimafhbfkhaaGreatOT8
set_option maxHeartbeats 64000000
namespace Go.Proofs.YtdobimafhbfkhaaGreat
open Go.ChangeShapes Go.WideShapes Go.ChangeAt Go.RowKit
set_option maxRecDepth 100000
set_option linter.unusedSimpArgs false
def lI (c:List Bool)(i:Int):Bool:=decide (aB c i=1)
theorem kz {c:List Bool}{k:Nat}{y:Bool}(hy:c[k]?=some y):aB c (k:Int)=if y then 2 else 1:=by
 have hlt:=(List.getElem?_eq_some_iff.1 hy).1
 unfold aB
 rw [if_neg (by omega),List.getD_eq_getElem?_getD,Int.toNat_natCast,hy]
 rfl
theorem gE {c:List Bool}{i:Int}(h:i<0∨(c.length:Int)≤i):aB c i=0:=by unfold aB;rw [if_pos h]
theorem qk {w:World}{cv:Value}{c:List Bool}(i:Int)(hc:bu w cv c) :
  Calls Tryz.prog 64 #[.agg #[cv],.int .i64 i] w fun e w'=>e = .returned (.bool (lI c i))∧Kept (fun _=>False) w w':=by
 have HK:=CM (show Kept (fun _=>False) w (w.alloc (.cells #[cv] aX))from(Kept.refl _ _).alloc _)
 have HC:=CM (Rd.kept hc HK.out (fun _ _ h=>h))
 obtain⟨_,m1,ao,cap,rfl,_⟩:=hc
 unfold maxLen at m1
 obtain⟨r,hr⟩:∃r,lI c i=r:=⟨_,rfl⟩
 rw [hr]
 have HR:=CM hr
 clear hr
 by_cases h0:i<0
 ·obtain rfl:r=false:=by rw [←HR.out];unfold lI;rw [gE (.inl h0)];rfl
  go_enter Tryz.func64,Tryz.ntmps64
  go_wp2_with fail
  go_ret
  exact⟨rfl,HK.out⟩
 by_cases h1:(c.length:Int)≤i
 ·obtain rfl:r=false:=by rw [←HR.out];unfold lI;rw [gE (.inr h1)];rfl
  go_enter Tryz.func64,Tryz.ntmps64
  go_wp2_with fail
  go_ret
  exact⟨rfl,HK.out⟩
 obtain⟨k,rfl⟩:∃k:Nat,i=(k:Int):=⟨i.toNat,by omega⟩
 obtain⟨y,hy⟩:∃y,c[k]?=some y:=⟨c[k]'(by omega),List.getElem?_eq_getElem _⟩
 obtain⟨cg,cog,rfl⟩:=ez HC.out hy rfl
 have hcc:=dG HC.out hy
 obtain rfl:r = !y:=by rw [←HR.out];unfold lI;rw [kz hy];cases y<;>rfl
 generalize hN:c.length=N at *
 have h3:(k:Int)<(N:Int):=by omega
 clear HC hy hN HR
 go_enter Tryz.func64,Tryz.ntmps64
 go_wp2_with fail
 go_ret
 exact⟨rfl,HK.out⟩
theorem rset_ok {w:World}{cv:Value}{c:List Bool}(s:SetM)(hc:bu w cv c) :
  Calls Tryz.prog 44 #[.agg #[cv],.agg s.cells.toArray] w fun e w'=>e = .returned (.bool (aP c s))∧Kept (fun _=>False) w w':=by
 obtain⟨W1,hW1,hk1,hb1,hb2⟩:=nz w #[cv] s.cells.toArray aX cI
 have HC:=CM (Rd.kept hc hk1 (fun _ _ h=>h))
 obtain⟨_,m1,ao,cap,rfl,_⟩:=hc
 have ul:=CM hW1
 have uq:=CM hk1
 have um:=CM hb1
 have un:=CM hb2
 have HR:=CM (gW s.v W1)
 have HN:=CM (show ∀(j:Int) (W:World),Kept (fun _=>False) W1 W→Calls Tryz.prog 64 #[.agg #[.slice ao c.length cap],.int .i64 j] W fun e w'=>e = .returned (.bool (lI c j))∧Kept (fun _=>False) W w' from fun j W k=>qk j (Rd.kept HC.out k (fun _ _ h=>h)))
 obtain⟨rr,hrr⟩:∃rr,aP c s=rr:=⟨_,rfl⟩
 rw [hrr]
 have HRR:=CM hrr
 obtain⟨rv,hrv⟩:∃rv,am s.v=rv:=⟨_,rfl⟩
 rw [hrv]at HR
 have ym:=CM hrv
 clear hW1 hk1 hb1 hb2 hrr hrv
 unfold maxLen at m1
 go_enter Tryz.func44,Tryz.ntmps44
 go_upto_region 1 with fail
 rw [←ul.out]
 clear ul
 generalize w.heap.size+1=b2 at *
 generalize w.heap.size=b1 at *
 obtain⟨x0,x1,x2,x3,x4,x5,x6⟩:=aC un.out
 obtain⟨t0,tf⟩:=aq um.out
 by_cases h1:s.col<1
 ·obtain rfl:rr=false:=by rw [←HRR.out];unfold aP;rw [if_pos (.inl h1)]
  go_wp2_with fail
  go_ret
  exact⟨rfl,uq.out⟩
 by_cases h2:(c.length:Int)≤s.col
 ·obtain rfl:rr=false:=by rw [←HRR.out];unfold aP;rw [if_pos (.inr (gE (.inr h2)))]
  go_wp2_with fail
  go_ret
  exact⟨rfl,uq.out⟩
 obtain⟨k,hk⟩:∃k:Nat,s.col=(k:Int):=⟨s.col.toNat,by omega⟩
 obtain⟨y,hy⟩:∃y,c[k]?=some y:=⟨c[k]'(by omega),List.getElem?_eq_getElem _⟩
 have hkd:=kz hy
 have hcol:¬(s.col<1∨aB c s.col=0):=by rw [hk,hkd];cases y<;>simp<;>omega
 have Cc:=CM (show aB c s.col=if y then 2 else 1 by rw [hk];exact hkd)
 have uU:=CM hcol
 have HY:=CM hy
 have vP:=CM hk
 rw [hk]at x0 h1 h2
 clear hkd hcol hy hk
 go_upto_region 4 with (go_at_call 26;refine HR.out.mono ?_;rintro e1 w1 ⟨rfl,hk1⟩;have vh:=CM hk1;have ux:=CM (uq.out.trans hk1 (fun _ h=>h.elim));clear hk1 HR x0 x1 x2 x3 x4 x5 x6 t0 tf)
 obtain⟨x0,x1,x2,x3,x4,x5,x6⟩:=aC (aj vh.out un.out)
 obtain⟨t0,tf⟩:=aq (aj vh.out um.out)
 rw [vP.out]at x0
 by_cases o1:s.op=1
 ·rw [o1]at x1
  have HV:=CM (show aP c s=(rv&&decide (s.v.t=y)) by
   unfold aP
   rw [if_neg uU.out,if_pos o1,Cc.out,ym.out]
   cases y<;>rfl)
  obtain⟨cg,cog,rfl⟩:=ez HC.out HY.out rfl
  have hcc:=dG (Rd.kept HC.out vh.out.drew (fun _ _ h=>h)) HY.out
  generalize hCN:c.length=N at *
  have h3:(k:Int)<(N:Int):=by omega
  clear o1 HC HN
  go_upto_region 6 with fail
  cases rv
  ·refine af [(0,false,999),(1,false,999),(2,false,999),(3,false,999),(4,false,999),(5,false,999),(6,false,999),(7,false,999),(8,false,999),(9,false,999),(10,false,999),(11,false,999),(12,false,999),(13,false,999)] (by kernel_rfl) (by kernel_rfl) ?_
   iterate 2 (refine ae rfl rfl (fun K hK=>?_);go_simp;refine hK _ ?_;clear hK K)
   iterate 10 (first|(refine al rfl rfl ?_;simp only [Act.put,CO,CP,CQ,CR,CT,CU])|(refine ai rfl rfl (fun K hK=>?_);go_simp;refine hK _ ?_;clear hK K))
   iterate 2 (refine ae rfl rfl (fun K hK=>?_);go_simp;refine hK _ ?_;clear hK K)
   refine ah ?_
   go_wp2_with fail
   go_ret
   exact⟨by rw [←HRR.out,HV.out];rfl,ux.out.drew⟩
  ·by_cases h4:s.v.t=y
   ·rw [h4]at x4 HV
    refine af [(0,false,999),(1,false,999),(2,false,999),(3,false,999),(4,false,999),(5,false,999),(6,false,999),(7,false,999),(8,false,999),(9,false,999),(10,false,999),(11,false,999),(12,false,999),(13,false,999)] (by kernel_rfl) (by kernel_rfl) ?_
    iterate 2 (refine ae rfl rfl (fun K hK=>?_);go_simp;refine hK _ ?_;clear hK K)
    iterate 10 (first|(refine al rfl rfl ?_;simp only [Act.put,CO,CP,CQ,CR,CT,CU])|(refine ai rfl rfl (fun K hK=>?_);go_simp;refine hK _ ?_;clear hK K))
    iterate 2 (refine ae rfl rfl (fun K hK=>?_);go_simp;refine hK _ ?_;clear hK K)
    refine ah ?_
    go_wp2_with fail
    go_ret
    exact⟨by rw [←HRR.out,HV.out];simp,ux.out.drew⟩
   ·have h5:(s.v.t == y)=false:=by simpa using h4
    refine af [(0,false,999),(1,false,999),(2,false,999),(3,false,999),(4,false,999),(5,false,999),(6,false,999),(7,false,999),(8,false,999),(9,false,999),(10,false,999),(11,false,999),(12,false,999),(13,false,999)] (by kernel_rfl) (by kernel_rfl) ?_
    iterate 2 (refine ae rfl rfl (fun K hK=>?_);go_simp;refine hK _ ?_;clear hK K)
    iterate 10 (first|(refine al rfl rfl ?_;simp only [Act.put,CO,CP,CQ,CR,CT,CU])|(refine ai rfl rfl (fun K hK=>?_);go_simp;refine hK _ ?_;clear hK K))
    iterate 2 (refine ae rfl rfl (fun K hK=>?_);go_simp;refine hK _ ?_;clear hK K)
    refine ah ?_
    go_wp2_with fail
    go_ret
    exact⟨by rw [←HRR.out,HV.out,decide_eq_false h4];rfl,ux.out.drew⟩
 by_cases o2:s.op=2
 ·rw [o2]at x1
  have HV:=CM (show aP c s=decide (aB c s.frm=if y then 2 else 1) by
   unfold aP
   rw [if_neg uU.out,if_neg o1,if_pos o2,Cc.out])
  obtain⟨cg,cog,rfl⟩:=ez HC.out HY.out rfl
  have wD:=CM (Rd.kept HC.out vh.out.drew (fun _ _ h=>h))
  have hcc:=dG wD.out HY.out
  go_upto_region 8 with fail
  by_cases f0:s.frm<0
  ·have f1:¬(0≤s.frm):=by omega
   have vA:=CM (show aP c s=false by rw [HV.out,gE (.inl f0)];cases y<;>rfl)
   clear o1 o2 wD HC HN
   refine af [(0,false,999),(1,false,999),(2,false,999),(3,false,999),(4,false,999),(5,false,999),(6,false,999),(7,false,999),(8,false,999),(9,false,999),(10,false,999),(11,false,999),(12,false,999),(13,false,999),(14,false,999),(15,false,999),(16,false,999),(17,false,999),(18,false,999),(19,false,999),(20,false,999),(21,false,999),(22,false,999),(23,false,999),(24,false,999),(25,false,999),(26,false,999)] (by kernel_rfl) (by kernel_rfl) ?_
   iterate 4 (refine ae rfl rfl (fun K hK=>?_);go_simp;refine hK _ ?_;clear hK K)
   iterate 6 (first|(refine al rfl rfl ?_;simp only [Act.put,CO,CP,CQ,CR,CT,CU])|(refine ai rfl rfl (fun K hK=>?_);go_simp;refine hK _ ?_;clear hK K))
   iterate 2 (refine ae rfl rfl (fun K hK=>?_);go_simp;refine hK _ ?_;clear hK K)
   iterate 13 (first|(refine al rfl rfl ?_;simp only [Act.put,CO,CP,CQ,CR,CT,CU])|(refine ai rfl rfl (fun K hK=>?_);go_simp;refine hK _ ?_;clear hK K))
   iterate 2 (refine ae rfl rfl (fun K hK=>?_);go_simp;refine hK _ ?_;clear hK K)
   refine ah ?_
   go_wp2_with fail
   go_ret
   exact⟨by rw [←HRR.out,vA.out];rfl,ux.out.drew⟩
  by_cases f2:(c.length:Int)≤s.frm
  ·have f1:0≤s.frm:=by omega
   have f3:¬(s.frm<(c.length:Int)):=by omega
   have vA:=CM (show aP c s=false by rw [HV.out,gE (.inr f2)];cases y<;>rfl)
   clear o1 o2 wD HC HN
   refine af [(0,false,999),(1,false,999),(2,false,999),(3,false,999),(4,false,999),(5,false,999),(6,false,999),(7,false,999),(8,false,999),(9,false,999),(10,false,999),(11,false,999),(12,false,999),(13,false,999),(14,false,999),(15,false,999),(16,false,999),(17,false,999),(18,false,999),(19,false,999),(20,false,999),(21,false,999),(22,false,999),(23,false,999),(24,false,999),(25,false,999),(26,false,999)] (by kernel_rfl) (by kernel_rfl) ?_
   iterate 4 (refine ae rfl rfl (fun K hK=>?_);go_simp;refine hK _ ?_;clear hK K)
   iterate 6 (first|(refine al rfl rfl ?_;simp only [Act.put,CO,CP,CQ,CR,CT,CU])|(refine ai rfl rfl (fun K hK=>?_);go_simp;refine hK _ ?_;clear hK K))
   iterate 2 (refine ae rfl rfl (fun K hK=>?_);go_simp;refine hK _ ?_;clear hK K)
   iterate 13 (first|(refine al rfl rfl ?_;simp only [Act.put,CO,CP,CQ,CR,CT,CU])|(refine ai rfl rfl (fun K hK=>?_);go_simp;refine hK _ ?_;clear hK K))
   iterate 2 (refine ae rfl rfl (fun K hK=>?_);go_simp;refine hK _ ?_;clear hK K)
   refine ah ?_
   go_wp2_with fail
   go_ret
   exact⟨by rw [←HRR.out,vA.out];rfl,ux.out.drew⟩
  obtain⟨j,hj⟩:∃j:Nat,s.frm=(j:Int):=⟨s.frm.toNat,by omega⟩
  obtain⟨z,hz⟩:∃z,c[j]?=some z:=⟨c[j]'(by omega),List.getElem?_eq_getElem _⟩
  have hcz:=dG wD.out hz
  have vA:=CM (show aP c s=decide (z=y) by rw [HV.out,hj,kz hz];cases z<;>cases y<;>rfl)
  rw [hj]at x2
  generalize hCN:c.length=N at *
  have h3:(k:Int)<(N:Int):=by omega
  have h4:(j:Int)<(N:Int):=by omega
  clear o1 o2 wD HC HN hz hj f0 f2
  by_cases h5:z=y
  ·subst h5
   refine af [(0,false,999),(1,false,999),(2,false,999),(3,false,999),(4,false,999),(5,false,999),(6,false,999),(7,false,999),(8,false,999),(9,false,999),(10,false,999),(11,false,999),(12,false,999),(13,false,999),(14,false,999),(15,false,999),(16,false,999),(17,false,999),(18,false,999),(19,false,999),(20,false,999),(21,false,999),(22,false,999),(23,false,999),(24,false,999),(25,false,999),(26,false,999)] (by kernel_rfl) (by kernel_rfl) ?_
   iterate 4 (refine ae rfl rfl (fun K hK=>?_);go_simp;refine hK _ ?_;clear hK K)
   iterate 6 (first|(refine al rfl rfl ?_;simp only [Act.put,CO,CP,CQ,CR,CT,CU])|(refine ai rfl rfl (fun K hK=>?_);go_simp;refine hK _ ?_;clear hK K))
   iterate 2 (refine ae rfl rfl (fun K hK=>?_);go_simp;refine hK _ ?_;clear hK K)
   iterate 13 (first|(refine al rfl rfl ?_;simp only [Act.put,CO,CP,CQ,CR,CT,CU])|(refine ai rfl rfl (fun K hK=>?_);go_simp;refine hK _ ?_;clear hK K))
   iterate 2 (refine ae rfl rfl (fun K hK=>?_);go_simp;refine hK _ ?_;clear hK K)
   refine ah ?_
   go_wp2_with fail
   go_ret
   exact⟨by rw [←HRR.out,vA.out];simp,ux.out.drew⟩
  ·have h6:(z == y)=false:=by simpa using h5
   refine af [(0,false,999),(1,false,999),(2,false,999),(3,false,999),(4,false,999),(5,false,999),(6,false,999),(7,false,999),(8,false,999),(9,false,999),(10,false,999),(11,false,999),(12,false,999),(13,false,999),(14,false,999),(15,false,999),(16,false,999),(17,false,999),(18,false,999),(19,false,999),(20,false,999),(21,false,999),(22,false,999),(23,false,999),(24,false,999),(25,false,999),(26,false,999)] (by kernel_rfl) (by kernel_rfl) ?_
   iterate 4 (refine ae rfl rfl (fun K hK=>?_);go_simp;refine hK _ ?_;clear hK K)
   iterate 6 (first|(refine al rfl rfl ?_;simp only [Act.put,CO,CP,CQ,CR,CT,CU])|(refine ai rfl rfl (fun K hK=>?_);go_simp;refine hK _ ?_;clear hK K))
   iterate 2 (refine ae rfl rfl (fun K hK=>?_);go_simp;refine hK _ ?_;clear hK K)
   iterate 13 (first|(refine al rfl rfl ?_;simp only [Act.put,CO,CP,CQ,CR,CT,CU])|(refine ai rfl rfl (fun K hK=>?_);go_simp;refine hK _ ?_;clear hK K))
   iterate 2 (refine ae rfl rfl (fun K hK=>?_);go_simp;refine hK _ ?_;clear hK K)
   refine ah ?_
   go_wp2_with fail
   go_ret
   exact⟨by rw [←HRR.out,vA.out,decide_eq_false h5];rfl,ux.out.drew⟩
 obtain⟨n1,hn1⟩:∃n,lI c s.col=n:=⟨_,rfl⟩
 obtain⟨n2,hn2⟩:∃n,lI c s.frm=n:=⟨_,rfl⟩
 obtain⟨n3,hn3⟩:∃n,lI c s.oth=n:=⟨_,rfl⟩
 have H1:=CM (show lI c (k:Int)=n1 by rw [←vP.out];exact hn1)
 have H2:=CM hn2
 have H3:=CM hn3
 by_cases o3:s.op=3∨s.op=4∨s.op=5
 ·have HV:=CM (show aP c s=(n1&&n2&&rv && !s.v.t) by
   unfold aP
   rw [if_neg uU.out,if_neg o1,if_neg o2,if_pos o3,←hn1,←hn2,←ym.out]
   rfl)
  clear hn1 hn2 hn3 o1 o2 HC
  rcases o3 with o3|o3|o3
  all_goals
   rw [o3]at x1
   clear o3
   go_upto_region 12 with fail
   cases n1<;>cases n2<;>cases rv
   all_goals
    go_wp2_with (go_at_call 64;refine(HN.out _ _ vh.out).mono ?_;(first|(rw [H1.out])|(rw [H2.out])|(rw [H3.out]));rintro e3 w3 ⟨rfl,hk3⟩;replace vh:=CM (vh.out.trans hk3 (fun _ h=>h.elim));clear hk3 x0 x1 x2 x3 x4 x5 x6 t0 tf;obtain⟨x0,x1,x2,x3,x4,x5,x6⟩:=aC (aj vh.out un.out);obtain⟨t0,tf⟩:=aq (aj vh.out um.out))
    go_ret
    exact⟨by rw [←HRR.out,HV.out];rfl,uq.out.trans vh.out (fun _ h=>h.elim)⟩
 have e3:(s.op == 3)=false:=by simp;omega
 have e4:(s.op == 4)=false:=by simp;omega
 have e5:(s.op == 5)=false:=by simp;omega
 by_cases o6:s.op=6
 ·have HV:=CM (show aP c s=(n1&&n2&&n3) by
   unfold aP
   rw [if_neg uU.out,if_neg o1,if_neg o2,if_neg o3,if_pos o6,←hn1,←hn2,←hn3]
   rfl)
  clear hn1 hn2 hn3 o1 o2 o3 e3 e4 e5 HC
  rw [o6]at x1
  clear o6
  go_upto_region 14 with fail
  cases n1<;>cases n2<;>cases n3
  all_goals
   go_wp2_with (go_at_call 64;refine(HN.out _ _ vh.out).mono ?_;(first|(rw [H1.out])|(rw [H2.out])|(rw [H3.out]));rintro e3 w3 ⟨rfl,hk3⟩;replace vh:=CM (vh.out.trans hk3 (fun _ h=>h.elim));clear hk3 x0 x1 x2 x3 x4 x5 x6 t0 tf;obtain⟨x0,x1,x2,x3,x4,x5,x6⟩:=aC (aj vh.out un.out);obtain⟨t0,tf⟩:=aq (aj vh.out um.out))
   go_ret
   exact⟨by rw [←HRR.out,HV.out];rfl,uq.out.trans vh.out (fun _ h=>h.elim)⟩
 ·have e1:(s.op == 1)=false:=by simpa using o1
  have e2:(s.op == 2)=false:=by simpa using o2
  have e6:(s.op == 6)=false:=by simpa using o6
  obtain rfl:rr=false:=by
   rw [←HRR.out]
   unfold aP
   rw [if_neg uU.out,if_neg o1,if_neg o2,if_neg o3,if_neg o6]
  clear hn1 hn2 hn3 o1 o2 o3 o6 HC
  go_wp2_with fail
  go_ret
  exact⟨rfl,ux.out⟩
theorem tQ {w:World}{cv sv:Value}{c:List Bool}{l:List SetM}(hm:cu c=true)(hc:bu w cv c)(hr:sE w sv l) :
  Calls Tryz.prog 28 #[.agg #[cv],sv] w fun e w'=>e = .returned (.bool (cT c l))∧Kept (fun _=>False) w w':=by
 have hk1:Kept (fun _=>False) w (w.alloc (.cells #[cv] aX)):=(Kept.refl _ _).alloc _
 have hb1:(w.alloc (.cells #[cv] aX)).heap[w.heap.size]?=some (.cells #[cv] aX (0,0)):=aw w _
 have yi:=CM hc
 have yW:=CM (show Rd w 7 sv l.length (l.flatMap SetM.cells)from hr)
 have uq:=CM hk1
 have um:=CM hb1
 obtain⟨-,m2,ro,rcap,rfl,-⟩:=hr
 obtain⟨N,hN⟩:∃N,l.length=N:=⟨_,rfl⟩
 obtain⟨sr,hsr⟩:∃b,cT c l=b:=⟨_,rfl⟩
 rw [hsr]
 have yt:=CM hsr
 unfold maxLen at m2
 rw [hN]at yW m2 ⊢
 have HN:=CM hN
 have HM:=CM hm
 clear hk1 hb1 hc hsr hN hm
 go_enter Tryz.func28,Tryz.ntmps28
 go_upto_region 1 with fail
 obtain⟨W,hW⟩:∃W,W=w.alloc (.cells #[cv] aX):=⟨_,rfl⟩
 rw [←hW]at uq um ⊢
 generalize w.heap.size=bt at um ⊢
 clear hW
 by_cases hl:N≤3
 case neg =>
  have hl2:(N:Int) > 3:=by omega
  obtain rfl:sr=false:=by
   rw [←yt.out]
   unfold cT
   rw [HN.out,decide_eq_false hl,Bool.and_false]
   rfl
  go_wp2_with fail
  go_ret
  exact⟨rfl,uq.out⟩
 have hl2:¬((N:Int) > 3):=by omega
 have vT:=CM (kY (c:=c) (l:=l) HM.out (by rw [HN.out];exact hl))
 rw [yt.out]at vT
 go_wp2_with fail
 go_loopw [5] (fun iv wr=>∃i:Nat,iv = .int .i64 i∧i≤N∧d3 c (l.take i)=true∧Kept (fun _=>False) W wr) (fun iv _=>N-(intOf iv).toNat)
 case atStart=>exact⟨0,rfl,Nat.zero_le _,rfl,Kept.refl _ _⟩
 case round =>
  obtain⟨i,rfl,hi,hok,hkr⟩:=hrel
  have vp:=CM hok
  have HK:=CM hkr
  have xH:=CM (uq.out.trans hkr (fun _ h=>h.elim))
  clear hok hkr
  by_cases hlt:i<N
  ·have hii:(i:Int)<(N:Int):=by omega
   obtain⟨x,hx⟩:∃x,l[i]?=some x:=⟨l[i]'(by rw [HN.out];exact hlt),List.getElem?_eq_getElem _⟩
   have yf:=CM (show d3 c (l.take (i+1))=(aP c x && !decide (x.col∈(l.take i).map SetM.col)) by rw [List.take_add_one,hx,Option.toList_some,dh,vp.out];rfl)
   obtain⟨sg,so,hsa,hrg⟩:=bK SetM.len (Rd.kept yW.out xH.out (fun _ _ h=>h)) hx HN.out
   subst hsa
   have wM:=CM (nm (show wr.drew.rangeAt sg (so+i*7) x.cells from hrg))
   have HX:=CM hx
   have vk:=CM (rset_ok x (Rd.kept yi.out xH.out.drew (fun _ _ h=>h)))
   obtain⟨b0,bf⟩:=aq (aj HK.out.drew um.out)
   obtain⟨ms,hms⟩:∃m,aP c x=m:=⟨_,rfl⟩
   rw [hms]at vk yf
   clear hx hrg hms
   go_upto_region 6 with fail
   refine af [(0,false,5),(1,false,5),(2,false,5),(3,false,5),(4,false,5),(5,true,0),(6,false,999)] (by kernel_rfl) (by kernel_rfl) ?_
   iterate 5 (refine ae rfl rfl (fun K hK=>?_);(first|((refine cj _ _ rfl _ _ rfl _ wM.out ?_);go_simp)|go_simp);refine hK _ ?_;clear hK K)
   refine ag rfl ?_
   refine au rfl (fun K hK=>?_)
   go_simp
   refine vk.out.mono ?_
   rintro e3 w3 ⟨rfl,hk3⟩
   have vI:=CM (HK.out.drew.trans hk3 (fun _ h=>h.elim))
   have yP:=CM (xH.out.drew.trans hk3 (fun _ h=>h.elim))
   clear hk3 vk b0 bf wM
   refine hK _ _ ?_
   clear hK K
   refine wpList_nil ?_
   refine And.intro ?_ ?_
   ·go_simp
   refine ae rfl rfl (fun K hK=>?_);(first|((refine cj _ _ rfl _ _ rfl _ wM.out ?_);go_simp)|go_simp);refine hK _ ?_;clear hK K
   refine ah ?_
   cases ms with
   | false =>
    obtain rfl:sr=false:=by rw [vT.out];exact it (i+1) yf.out
    go_wp2_with fail
    go_ret
    exact⟨rfl,yP.out⟩
   | true =>
    go_upto_region 9 with fail
    go_wp2_with fail
    go_loopw [7] (fun kv wq=>∃k:Nat,kv = .int .i64 k∧k≤i∧x.col ∉ (l.take k).map SetM.col∧Kept (fun _=>False) w3 wq) (fun kv _=>i-(intOf kv).toNat)
    case atStart=>exact⟨0,rfl,Nat.zero_le _,(by simp),Kept.refl _ _⟩
    case round =>
     obtain⟨k,rfl,hk,hno,hkq⟩:=hrel
     have wb:=CM hno
     have Cd:=CM hkq
     have BL:=CM (yP.out.trans hkq (fun _ h=>h.elim))
     clear hno hkq
     by_cases hlt2:k<i
     ·have hki:(k:Int)<(i:Int):=by omega
      obtain⟨y,hy⟩:∃y,l[k]?=some y:=⟨l[k]'(by rw [HN.out];omega),List.getElem?_eq_getElem _⟩
      have HY:=CM hy
      obtain⟨g1,o1,e1,r1⟩:=bK SetM.len (Rd.kept yW.out BL.out.drew (fun _ _ h=>h)) hy HN.out
      obtain⟨g2,o2,e2,r2⟩:=bK SetM.len (Rd.kept yW.out BL.out.drew (fun _ _ h=>h)) HX.out HN.out
      cases e1
      cases e2
      have y0:=r1 0 _ rfl
      have z0:=r2 0 _ rfl
      rw [Nat.add_zero]at y0 z0
      have hkn:(k:Int)<(N:Int):=by omega
      clear hy r1 r2
      go_upto_region 12 with fail
      by_cases hq:y.col=x.col
      ·rw [hq]at y0
       obtain rfl:sr=false:=by
        rw [vT.out]
        refine it (i+1) ?_
        rw [yf.out]
        have hmem:x.col∈(l.take i).map SetM.col:=List.mem_map.2 ⟨y,List.mem_of_getElem? (by rw [List.getElem?_take,if_pos hlt2];exact HY.out),hq⟩
        rw [decide_eq_true hmem]
        rfl
       clear hq
       refine af [(0,false,999),(1,false,999),(2,false,999),(3,false,999),(4,false,999),(5,false,999),(6,false,999),(7,false,999),(8,false,999),(9,false,999),(10,false,999)] (by kernel_rfl) (by kernel_rfl) ?_
       iterate 11 (refine ae rfl rfl (fun K hK=>?_);go_simp;refine hK _ ?_;clear hK K)
       refine ah ?_
       go_wp2_with fail
       go_ret
       exact⟨rfl,BL.out.drew⟩
      ·have hne:(y.col == x.col)=false:=by simpa using hq
       have BM:=CM (show x.col ∉ (l.take (k+1)).map SetM.col by
        rw [List.take_add_one,HY.out,Option.toList_some,List.map_append,List.map_singleton]
        intro hm
        rcases List.mem_append.1 hm with hm|hm
        ·exact wb.out hm
        ·exact hq (List.mem_singleton.1 hm).symm)
       clear hq
       refine af [(0,false,999),(1,false,999),(2,false,999),(3,false,999),(4,false,999),(5,false,999),(6,false,999),(7,false,999),(8,false,999),(9,false,999),(10,false,999)] (by kernel_rfl) (by kernel_rfl) ?_
       iterate 11 (refine ae rfl rfl (fun K hK=>?_);go_simp;refine hK _ ?_;clear hK K)
       refine ah ?_
       go_wp2_with fail
       go_roundw
       case rel=>exact⟨k+1,by go_num,by omega,BM.out,Cd.out.drew⟩
       case measure=>simp [intOf];omega
     ·obtain rfl:k=i:=by omega
      have hki:¬((k:Int)<(k:Int)):=by omega
      have BM:=CM (show d3 c (l.take (k+1))=true by rw [yf.out,decide_eq_false wb.out];rfl)
      go_wp2_with fail
      go_roundw
      case rel=>exact⟨k+1,by go_num,by omega,BM.out,vI.out.trans Cd.out (fun _ h=>h.elim)⟩
      case measure=>simp [intOf];omega
  ·obtain rfl:i=N:=by omega
   have hii:¬((i:Int)<(i:Int)):=by omega
   obtain rfl:sr=true:=by rw [vT.out,←List.take_of_length_le (Nat.le_of_eq HN.out)];exact vp.out
   go_wp2_with fail
   go_ret
   exact⟨rfl,xH.out⟩
end Go.Proofs.YtdobimafhbfkhaaGreat
