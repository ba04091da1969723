/- The document's Size, part, May of predicates (ratlineref03). (printed by genrm2.py) -/
import Derived.Test.YtdobimafhbfkhaaGreatOT48
import Derived.Test.YtdobimafhbfkhaaGreatOT10
set_option maxHeartbeats 64000000
namespace Go.Proofs.YtdobimafhbfkhaaGreat
open Go.ChangeShapes Go.WideShapes Go.ChangeAt Go.RowKit
set_option maxRecDepth 100000
set_option linter.unusedSimpArgs false
theorem eE {w:World}{cv:Value}{c:List Bool}(i:Int)(v:Val)(hc:bu w cv c) :
  Calls Tryz.prog 65 #[.agg #[cv],.int .i64 i,v.v] w fun e w'=>e = .returned (.bool (bP c i v))∧Kept (fun _=>False) w w':=by
 obtain⟨W1,hW1,hk1,hb1,hb2⟩:=nz w #[cv] #[.bool v.t,.int .i64 v.n,.string v.s] aX tV
 have HC:=CM (Rd.kept hc hk1 (fun _ _ h=>h))
 obtain⟨_,m1,ao,cap,rfl,_⟩:=hc
 have ul:=CM hW1
 have uq:=CM hk1
 have um:=CM hb1
 have un:=CM hb2
 have HR:=CM (gW v W1)
 obtain⟨rr,hrr⟩:∃rr,rr=bP c i v:=⟨_,rfl⟩
 rw [←hrr]
 have HRR:=CM hrr
 obtain⟨rv,hrv⟩:∃rv,am v=rv:=⟨_,rfl⟩
 rw [hrv]at HR
 have ym:=CM hrv
 clear hW1 hk1 hb1 hb2 hrr hrv
 unfold maxLen at m1
 go_enter Tryz.func65,Tryz.ntmps65
 go_upto_region 1 with fail
 rw [←ul.out]
 clear ul
 generalize w.heap.size+1=b2 at *
 generalize w.heap.size=b1 at *
 obtain⟨x0,x1,x2,xf⟩:=aT un.out
 go_upto_region 2 with (go_at_call 26;refine HR.out.mono ?_;rintro e1 w1 ⟨rfl,hk1⟩;have vh:=CM hk1;have ux:=CM (uq.out.trans hk1 (fun _ h=>h.elim));clear hk1 HR x0 x1 x2 xf)
 obtain⟨x0,x1,x2,xf⟩:=aT (aj vh.out un.out)
 obtain⟨t0,tf⟩:=aq (aj vh.out um.out)
 have wD:=CM (Rd.kept HC.out vh.out.drew (fun _ _ h=>h))
 by_cases h1:0≤i
 ·by_cases h2:i<(c.length:Int)
  ·obtain⟨k,rfl⟩:∃k:Nat,i=(k:Int):=⟨i.toNat,by omega⟩
   obtain⟨y,hy⟩:∃y,c[k]?=some y:=⟨c[k]'(by omega),List.getElem?_eq_getElem _⟩
   obtain⟨cg,cog,rfl⟩:=ez wD.out hy rfl
   have hcc:=dG wD.out hy
   have hg:c.getD ((k:Int)).toNat false=y:=by rw [List.getD_eq_getElem?_getD,Int.toNat_natCast,hy];rfl
   have HV:=CM (show bP c (k:Int) v=(rv&&decide (v.t=y)) by unfold bP;rw [hg,ym.out,decide_eq_true h1,decide_eq_true h2];cases rv<;>cases decide (v.t=y)<;>rfl)
   generalize hN:c.length=N at *
   clear hy hg hN HC wD
   cases rv
   ·refine af [(0,false,999),(1,false,999),(2,false,999),(3,false,999),(4,false,999),(5,false,999),(6,false,999),(7,false,999),(8,false,999),(9,false,999),(10,false,999),(11,false,999),(12,false,999),(13,false,999),(14,false,999),(15,false,999),(16,false,999),(17,false,999),(18,false,999),(19,false,999),(20,false,999),(21,false,999),(22,false,999)] (by kernel_rfl) (by kernel_rfl) ?_
    iterate 3 (refine ae rfl rfl (fun K hK=>?_);go_simp;refine hK _ ?_;clear hK K)
    iterate 5 (first|(refine al rfl rfl ?_;simp only [Act.put,CO,CP,CQ,CR,CT,CU])|(refine ai rfl rfl (fun K hK=>?_);go_simp;refine hK _ ?_;clear hK K))
    iterate 2 (refine ae rfl rfl (fun K hK=>?_);go_simp;refine hK _ ?_;clear hK K)
    first|(refine al rfl rfl ?_;simp only [Act.put,CO,CP,CQ,CR,CT,CU])|(refine ai rfl rfl (fun K hK=>?_);go_simp;refine hK _ ?_;clear hK K)
    iterate 2 (refine ae rfl rfl (fun K hK=>?_);go_simp;refine hK _ ?_;clear hK K)
    iterate 8 (first|(refine al rfl rfl ?_;simp only [Act.put,CO,CP,CQ,CR,CT,CU])|(refine ai rfl rfl (fun K hK=>?_);go_simp;refine hK _ ?_;clear hK K))
    iterate 2 (refine ae rfl rfl (fun K hK=>?_);go_simp;refine hK _ ?_;clear hK K)
    refine ah ?_
    go_wp2_with fail
    go_ret
    exact⟨by rw [HRR.out,HV.out];rfl,ux.out.drew⟩
   ·by_cases h3:v.t=y
    ·subst h3
     refine af [(0,false,999),(1,false,999),(2,false,999),(3,false,999),(4,false,999),(5,false,999),(6,false,999),(7,false,999),(8,false,999),(9,false,999),(10,false,999),(11,false,999),(12,false,999),(13,false,999),(14,false,999),(15,false,999),(16,false,999),(17,false,999),(18,false,999),(19,false,999),(20,false,999),(21,false,999),(22,false,999)] (by kernel_rfl) (by kernel_rfl) ?_
     iterate 3 (refine ae rfl rfl (fun K hK=>?_);go_simp;refine hK _ ?_;clear hK K)
     iterate 5 (first|(refine al rfl rfl ?_;simp only [Act.put,CO,CP,CQ,CR,CT,CU])|(refine ai rfl rfl (fun K hK=>?_);go_simp;refine hK _ ?_;clear hK K))
     iterate 2 (refine ae rfl rfl (fun K hK=>?_);go_simp;refine hK _ ?_;clear hK K)
     first|(refine al rfl rfl ?_;simp only [Act.put,CO,CP,CQ,CR,CT,CU])|(refine ai rfl rfl (fun K hK=>?_);go_simp;refine hK _ ?_;clear hK K)
     iterate 2 (refine ae rfl rfl (fun K hK=>?_);go_simp;refine hK _ ?_;clear hK K)
     iterate 8 (first|(refine al rfl rfl ?_;simp only [Act.put,CO,CP,CQ,CR,CT,CU])|(refine ai rfl rfl (fun K hK=>?_);go_simp;refine hK _ ?_;clear hK K))
     iterate 2 (refine ae rfl rfl (fun K hK=>?_);go_simp;refine hK _ ?_;clear hK K)
     refine ah ?_
     go_wp2_with fail
     go_ret
     exact⟨by rw [HRR.out,HV.out];simp,ux.out.drew⟩
    ·obtain rfl:y = !v.t:=by cases y<;>cases h:v.t<;>simp_all
     refine af [(0,false,999),(1,false,999),(2,false,999),(3,false,999),(4,false,999),(5,false,999),(6,false,999),(7,false,999),(8,false,999),(9,false,999),(10,false,999),(11,false,999),(12,false,999),(13,false,999),(14,false,999),(15,false,999),(16,false,999),(17,false,999),(18,false,999),(19,false,999),(20,false,999),(21,false,999),(22,false,999)] (by kernel_rfl) (by kernel_rfl) ?_
     iterate 3 (refine ae rfl rfl (fun K hK=>?_);go_simp;refine hK _ ?_;clear hK K)
     iterate 5 (first|(refine al rfl rfl ?_;simp only [Act.put,CO,CP,CQ,CR,CT,CU])|(refine ai rfl rfl (fun K hK=>?_);go_simp;refine hK _ ?_;clear hK K))
     iterate 2 (refine ae rfl rfl (fun K hK=>?_);go_simp;refine hK _ ?_;clear hK K)
     first|(refine al rfl rfl ?_;simp only [Act.put,CO,CP,CQ,CR,CT,CU])|(refine ai rfl rfl (fun K hK=>?_);go_simp;refine hK _ ?_;clear hK K)
     iterate 2 (refine ae rfl rfl (fun K hK=>?_);go_simp;refine hK _ ?_;clear hK K)
     iterate 8 (first|(refine al rfl rfl ?_;simp only [Act.put,CO,CP,CQ,CR,CT,CU])|(refine ai rfl rfl (fun K hK=>?_);go_simp;refine hK _ ?_;clear hK K))
     iterate 2 (refine ae rfl rfl (fun K hK=>?_);go_simp;refine hK _ ?_;clear hK K)
     refine ah ?_
     go_wp2_with fail
     go_ret
     exact⟨by rw [HRR.out,HV.out];simp,ux.out.drew⟩
  ·have HV:=CM (show bP c i v=false by unfold bP;rw [decide_eq_false h2];simp)
   clear wD
   refine af [(0,false,999),(1,false,999),(2,false,999),(3,false,999),(4,false,999),(5,false,999),(6,false,999),(7,false,999),(8,false,999),(9,false,999),(10,false,999),(11,false,999),(12,false,999),(13,false,999),(14,false,999),(15,false,999),(16,false,999),(17,false,999),(18,false,999),(19,false,999),(20,false,999),(21,false,999),(22,false,999)] (by kernel_rfl) (by kernel_rfl) ?_
   iterate 3 (refine ae rfl rfl (fun K hK=>?_);go_simp;refine hK _ ?_;clear hK K)
   iterate 5 (first|(refine al rfl rfl ?_;simp only [Act.put,CO,CP,CQ,CR,CT,CU])|(refine ai rfl rfl (fun K hK=>?_);go_simp;refine hK _ ?_;clear hK K))
   iterate 2 (refine ae rfl rfl (fun K hK=>?_);go_simp;refine hK _ ?_;clear hK K)
   first|(refine al rfl rfl ?_;simp only [Act.put,CO,CP,CQ,CR,CT,CU])|(refine ai rfl rfl (fun K hK=>?_);go_simp;refine hK _ ?_;clear hK K)
   iterate 2 (refine ae rfl rfl (fun K hK=>?_);go_simp;refine hK _ ?_;clear hK K)
   iterate 8 (first|(refine al rfl rfl ?_;simp only [Act.put,CO,CP,CQ,CR,CT,CU])|(refine ai rfl rfl (fun K hK=>?_);go_simp;refine hK _ ?_;clear hK K))
   iterate 2 (refine ae rfl rfl (fun K hK=>?_);go_simp;refine hK _ ?_;clear hK K)
   refine ah ?_
   go_wp2_with fail
   go_ret
   exact⟨by rw [HRR.out,HV.out];rfl,ux.out.drew⟩
 ·have HV:=CM (show bP c i v=false by unfold bP;rw [decide_eq_false h1];simp)
  clear wD
  refine af [(0,false,999),(1,false,999),(2,false,999),(3,false,999),(4,false,999),(5,false,999),(6,false,999),(7,false,999),(8,false,999),(9,false,999),(10,false,999),(11,false,999),(12,false,999),(13,false,999),(14,false,999),(15,false,999),(16,false,999),(17,false,999),(18,false,999),(19,false,999),(20,false,999),(21,false,999),(22,false,999)] (by kernel_rfl) (by kernel_rfl) ?_
  iterate 3 (refine ae rfl rfl (fun K hK=>?_);go_simp;refine hK _ ?_;clear hK K)
  iterate 5 (first|(refine al rfl rfl ?_;simp only [Act.put,CO,CP,CQ,CR,CT,CU])|(refine ai rfl rfl (fun K hK=>?_);go_simp;refine hK _ ?_;clear hK K))
  iterate 2 (refine ae rfl rfl (fun K hK=>?_);go_simp;refine hK _ ?_;clear hK K)
  first|(refine al rfl rfl ?_;simp only [Act.put,CO,CP,CQ,CR,CT,CU])|(refine ai rfl rfl (fun K hK=>?_);go_simp;refine hK _ ?_;clear hK K)
  iterate 2 (refine ae rfl rfl (fun K hK=>?_);go_simp;refine hK _ ?_;clear hK K)
  iterate 8 (first|(refine al rfl rfl ?_;simp only [Act.put,CO,CP,CQ,CR,CT,CU])|(refine ai rfl rfl (fun K hK=>?_);go_simp;refine hK _ ?_;clear hK K))
  iterate 2 (refine ae rfl rfl (fun K hK=>?_);go_simp;refine hK _ ?_;clear hK K)
  refine ah ?_
  go_wp2_with fail
  go_ret
  exact⟨by rw [HRR.out,HV.out];rfl,ux.out.drew⟩
def fZ (es:List PredE)(j:Nat):Nat:=1+((es.take j).flatMap (fun e=>e.p.nodes)).length
theorem oV {es:List PredE}{j:Nat}{e:PredE}(he:es[j]?=some e):fZ es (j+1)=fZ es j+e.p.nodes.length:=by
 unfold fZ
 rw [List.take_add_one,he,List.flatMap_append,List.length_append]
 simp
 omega
theorem qP (es:List PredE)(j:Nat):fZ es j≤1+(es.flatMap (fun e=>e.p.nodes)).length:=by
 unfold fZ
 have h2:es.flatMap (fun e=>e.p.nodes)=(es.take j).flatMap (fun e=>e.p.nodes)++(es.drop j).flatMap (fun e=>e.p.nodes):=by rw [←List.flatMap_append,List.take_append_drop]
 rw [h2,List.length_append]
 omega
theorem lj : ∀(p:PredT) (x:PredE) (w:World),x.p=p→p.nodes.length≤1000000→PredsRd w (.slice x.la x.ln x.lc) x.subs →
  Calls Tryz.prog 30 #[.agg x.cells.toArray] w fun e w'=>e = .returned (.int .i64 (p.nodes.length:Int))∧Kept (fun _=>False) w w':=by
 refine PredT.ind fun op col v w0 pl ih x w hx hn hat=>?_
 have hl:x.subs=pl:=by unfold PredE.p at hx;cases hx;rfl
 obtain⟨W1,hW1,hk1,hb1⟩:∃W,W=w.alloc (.cells x.cells.toArray tPr)∧Kept (fun _=>False) w W∧W.heap[w.heap.size]?=some (.cells x.cells.toArray tPr (0,0)):=⟨_,rfl,(Kept.refl _ _).alloc _,aw _ _⟩
 have hat1:=hat.kept hk1
 obtain⟨es,hrd,hsub,hes⟩:∃es:List PredE,Rd W1 9 (.slice x.la x.ln x.lc) es.length (es.flatMap PredE.cells)∧x.subs=es.map PredE.p∧∀e∈es,PredsRd W1 (.slice e.la e.ln e.lc) e.subs:=by
  generalize x.subs=xs at hat1
  cases hat1 with
  | mk _ es he hes=>exact⟨es,he,rfl,hes⟩
 have hne:(PredT.mk op col v w0 pl).nodes.length=1+(es.flatMap (fun e=>e.p.nodes)).length:=by rw [iV,←hl,hsub,List.flatMap_map,List.length_cons];omega
 have wl:=CM hne
 rw [hne]at hn
 obtain⟨_,_,ra,rc,hav,_⟩:=id hrd
 have hln:x.ln=es.length:=(Value.slice.inj hav).2.1
 have hml:=hrd.2.1
 unfold maxLen at hml
 obtain⟨N,hN⟩:∃N,es.length=N:=⟨_,rfl⟩
 rw [hln,hN]at hrd
 rw [hN]at hml
 have vY:=CM (show ∀(j:Nat) (e:PredE) (W:World),es[j]?=some e→Kept (fun _=>False) W1 W→Calls Tryz.prog 30 #[.agg e.cells.toArray] W fun r w'=>r = .returned (.int .i64 (e.p.nodes.length:Int))∧Kept (fun _=>False) W w' from
  fun j e W he k=>ih e.p (by rw [←hl,hsub];exact List.mem_map_of_mem (List.mem_of_getElem? he)) e W rfl (by
   have h1:e.p.nodes.length≤(es.flatMap (fun e=>e.p.nodes)).length:=by
    obtain⟨a,b,rfl⟩:=List.append_of_mem (List.mem_of_getElem? he)
    simp
    omega
   omega) ((hes e (List.mem_of_getElem? he)).kept k))
 have uw:=CM hrd
 have HN:=CM hN
 have vW:=CM (show x.ln=N by rw [hln,hN])
 have ul:=CM hW1
 have uq:=CM hk1
 have um:=CM hb1
 obtain⟨rr,hrr⟩:∃rr:Int,rr=((PredT.mk op col v w0 pl).nodes.length:Int):=⟨_,rfl⟩
 rw [←hrr]
 have HRR:=CM hrr
 clear ih hx hat hat1 hl hsub hes hrd hav hln hne hN hW1 hk1 hb1 hrr
 go_enter Tryz.func30,Tryz.ntmps30
 go_upto_region 1 with fail
 rw [←ul.out]
 clear ul
 generalize w.heap.size=bx at *
 obtain⟨la,hla⟩:∃la,la=x.la:=⟨_,rfl⟩
 obtain⟨lc,hlc⟩:∃lc,lc=x.lc:=⟨_,rfl⟩
 have HB:=CM (show ∀W,Kept (fun _=>False) W1 W→W.cell? ⟨bx,8,none⟩=some (.slice la N lc)from fun W k=>by
  obtain⟨_,_,_,_,_,_,_,_,h8⟩:=bh (aj k um.out)
  rw [vW.out,←hla,←hlc]at h8
  exact h8)
 rw [←hla,←hlc]at uw
 clear hla hlc
 go_wp2_with fail
 go_loopw [3,4] (fun u i wr=>∃j:Nat,i = .int .i64 j∧u = .int .i64 (fZ es j:Int)∧j≤N∧Kept (fun _=>False) W1 wr) (fun _ i _=>N-(intOf i).toNat)
 case atStart=>exact⟨0,rfl,rfl,by omega,Kept.refl _ _⟩
 case round =>
  obtain⟨j,rfl,rfl,hj,hk⟩:=hrel
  have HK:=CM hk
  have x8:=HB.out wr hk
  clear hk
  by_cases hlt:j<N
  ·have hii:(j:Int)<(N:Int):=by omega
   obtain⟨e,he⟩:∃e,es[j]?=some e:=⟨es[j]'(by rw [HN.out];exact hlt),List.getElem?_eq_getElem _⟩
   obtain⟨g,og,rfl,hrng⟩:=bK PredE.len (Rd.kept uw.out HK.out (fun _ _ h=>h)) he HN.out
   have HL:=CM (dp hrng)
   have HC:=CM (vY.out j e wr he HK.out)
   have vk:=CM (oV he)
   have hb:=qP es (j+1)
   rw [vk.out]at hb
   clear he hrng
   generalize fZ es j=a at *
   generalize e.p.nodes.length=b at *
   have hw:IntKind.i64.wrap ((a:Int)+(b:Int))=(a:Int)+(b:Int):=IntWalk.i64_in _ (by omega)
   go_wp2_with (first|(refine bG rfl _ _ rfl _ _ rfl _ HL.out ?_)|(go_at_call 30;refine HC.out.mono ?_;rintro e4 w4 ⟨rfl,hk4⟩;have HK4:=CM (HK.out.trans hk4 (fun _ h=>h.elim));clear hk4 HC HL))
   go_roundw
   case rel=>exact⟨j+1,by go_num,by rw [vk.out];go_num,by omega,HK4.out⟩
   case measure=>simp [intOf];omega
  ·have hii:¬((j:Int)<(N:Int)):=by omega
   have HT:=CM (show fZ es j=1+(es.flatMap (fun e=>e.p.nodes)).length by unfold fZ;rw [List.take_of_length_le (by rw [HN.out];omega)])
   go_wp2_with fail
   go_ret
   exact⟨by rw [HRR.out,wl.out,←HT.out];rfl,uq.out.trans HK.out (fun _ h=>h.elim)⟩
end Go.Proofs.YtdobimafhbfkhaaGreat
