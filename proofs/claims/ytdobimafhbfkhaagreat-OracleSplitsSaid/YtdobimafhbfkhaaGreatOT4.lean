/- The library's BinarySearchFunc over values. -/
import Derived.Test.YtdobimafhbfkhaaGreatOT3
import Derived.Deep.CutBlock
set_option maxHeartbeats 64000000
namespace Go.Proofs.YtdobimafhbfkhaaGreat
open Go.ChangeShapes Go.WideShapes Go.ChangeAt Go.RowKit
set_option maxRecDepth 100000
set_option linter.unusedSimpArgs false
def bsF (cmp:Nat→Int)(i j:Nat):Nat:=if i<j then (if cmp ((i+j) / 2)<0 then bsF cmp ((i+j) / 2+1) j else bsF cmp i ((i+j) / 2))else i
termination_by j-i
def il (keys:List Val)(k:Val)(h:Nat):Int:=ak (keys.getD h default) k
def bq (keys:List Val)(k:Val):Nat:=bsF (il keys k) 0 keys.length
def dI (keys:List Val)(k:Val):Bool:=decide (bq keys k<keys.length)&&decide (il keys k (bq keys k)=0)
theorem kN (cmp:Nat→Int)(i j:Nat)(h:i≤j):i≤bsF cmp i j∧bsF cmp i j≤j:=by
 unfold bsF
 split
 ·split
  ·have:=kN cmp ((i+j) / 2+1) j (by omega);omega
  ·have:=kN cmp i ((i+j) / 2) (by omega);omega
 ·omega
termination_by j-i
theorem tU {cmp:Nat→Int}{i j:Nat}(h:i<j):bsF cmp i j=if cmp ((i+j) / 2)<0 then bsF cmp ((i+j) / 2+1) j else bsF cmp i ((i+j) / 2):=by rw [bsF,if_pos h]
theorem tO {cmp:Nat→Int}{i j:Nat}(h:¬i<j):bsF cmp i j=i:=by rw [bsF,if_neg h]
theorem aM {w:World}{g o N cap h:Nat}{keys:List Val}{x:Val}(hrd:Rd w 3 (.slice (some ⟨g,o,none⟩) N cap) N (keys.flatMap Val.cells))(hx:keys[h]?=some x) :
  w.cell? ⟨g,o+h*3,none⟩=some (.bool x.t)∧w.cell? ⟨g,o+h*3+1,none⟩=some (.int .i64 x.n)∧w.cell? ⟨g,o+h*3+2,none⟩=some (.string x.s):=by
 have hlt:=(List.getElem?_eq_some_iff.1 hx).1
 rcases hrd.2.2 with ⟨_,_,hv,_,_,_,hcell⟩
 cases hv
 rcases hcell with h0|⟨_,_,hg,hc⟩
 ·have:=hrd.1
  rw [cz Val.len]at this
  omega
 cases hg
 have a0:=hc _ _ (bH Val.len keys h _ hx 0 _ rfl)
 have a1:=hc _ _ (bH Val.len keys h _ hx 1 _ rfl)
 have a2:=hc _ _ (bH Val.len keys h _ hx 2 _ rfl)
 rw [Nat.add_zero]at a0
 rw [←Nat.add_assoc]at a1 a2
 exact⟨a0,a1,a2⟩
theorem kr {keys:List Val}{h:Nat}{x:Val}(k:Val)(hx:keys[h]?=some x):il keys k h=ak x k:=by
 unfold il
 rw [List.getD_eq_getElem?_getD,hx]
 rfl
theorem eG {w:World}{v:Value}{keys:List Val}(k:Val)(hrd:Rd w 3 v keys.length (keys.flatMap Val.cells))(hbig:keys.length≤1000000) :
  Calls Tryz.prog 112 #[v,k.v,.func (.func 103) #[] #[]] w fun e w'=>e = .returned (.tuple #[.int .i64 (bq keys k),.bool (dI keys k)])∧Kept (fun _=>False) w w':=by
 obtain⟨_,hml,ao,cap,rfl,hnc,hcm,_⟩:=id hrd
 unfold maxLen at hml hcm
 have uw:=CM hrd
 have hk0:Kept (fun _=>False) w (w.alloc (.cells #[.bool k.t,.int .i64 k.n,.string k.s] 24)):=(Kept.refl _ _).alloc _
 have hb:(w.alloc (.cells #[.bool k.t,.int .i64 k.n,.string k.s] 24)).heap[w.heap.size]?=some (.cells #[.bool k.t,.int .i64 k.n,.string k.s] 24 (0,0)):=aw w _
 have uB:=CM hk0
 have HB:=CM hb
 clear hrd hk0 hb
 obtain⟨N,hN⟩:∃N,keys.length=N:=⟨_,rfl⟩
 have HN:=CM hN
 rw [hN]at uw hml hnc hbig ⊢
 clear hN
 dsimp only [Val.v]
 go_enter Tryz.func112,Tryz.ntmps112
 go_upto_block 0 with (fail)
 obtain⟨W,hW⟩:∃W,W=w.alloc (.cells #[.bool k.t,.int .i64 k.n,.string k.s] 24):=⟨_,rfl⟩
 rw [←hW]at uB HB ⊢
 generalize w.heap.size=bk at HB ⊢
 clear hW
 go_wp2_with fail
 go_loopw [9,10] (fun i j wr=>∃a b:Nat,i = .int .i64 a∧j = .int .i64 b∧a≤b∧b≤N∧bsF (il keys k) a b=bq keys k∧Kept (fun _=>False) W wr) (fun i j _=>(intOf j-intOf i).toNat)
 case atStart=>exact⟨0,N,rfl,rfl,by omega,by omega,by rw [bq,HN.out],Kept.refl _ _⟩
 case round =>
  obtain⟨a,b,rfl,rfl,hab,hbN,hbs,hkw⟩:=hrel
  have AX:=CM hbs
  have vh:=CM hkw
  have hrd:=uw.out.kept (uB.out.trans hkw (fun _ h=>h.elim)) (fun _ _ h=>h)
  have hbk:wr.heap[bk]?=some (.cells #[.bool k.t,.int .i64 k.n,.string k.s] 24 (0,0)):=(hkw.block bk (ax HB.out) (fun h=>h)).trans HB.out
  obtain⟨x0,x1,x2,xf⟩:=aT hbk
  clear hbs hkw hbk
  by_cases hlt:a<b
  ·have hN':=HN.out
   obtain⟨g,o,rfl⟩:∃g o,ao=some ⟨g,o,none⟩:=by
    rcases hrd.2.2 with ⟨_,_,hv,_,_,_,hcell⟩
    cases hv
    rcases hcell with h0|⟨g,o,h,_⟩
    ·omega
    ·exact⟨g,o,h⟩
   have hm2:(a+b) / 2<N:=by omega
   have hma:a≤(a+b) / 2:=by omega
   have hmb:(a+b) / 2<b:=by omega
   have yV:=CM (tU (cmp:=il keys k) hlt)
   have hcast:((a:Int)+(b:Int)) / 2=(((a+b) / 2:Nat):Int):=by omega
   generalize (a+b) / 2=M at *
   obtain⟨x,hx⟩:∃x,keys[M]?=some x:=⟨keys[M]'(by omega),List.getElem?_eq_getElem (by omega)⟩
   obtain⟨y0,y1,y2⟩:=aM hrd hx
   have vu:=CM (kr k hx)
   clear hx
   clear hrd hN'
   have hw1:IntKind.i64.wrap ((a:Int)+(b:Int))=(a:Int)+(b:Int):=IntWalk.i64_in _ (by omega)
   go_upto_region 5 with (fail)
   clear hcast
   have uC:=CM (bQ x k wr.drew)
   refine af [(0,false,6),(1,false,6),(2,false,6),(3,false,6),(4,false,6),(5,false,6),(6,true,0),(7,false,999)] (by kernel_rfl) (by kernel_rfl) ?_
   iterate 6 (refine ae rfl rfl (fun K hK=>?_);go_simp;refine hK _ ?_;clear hK K)
   refine ag rfl ?_
   refine au rfl (fun K hK=>?_)
   go_simp
   refine uC.out.mono ?_
   rintro e1 w1 ⟨rfl,hk1⟩
   have uq:=CM (vh.out.trans (((Kept.refl (fun _=>False) wr).drew).trans hk1 (fun _ h=>h.elim)) (fun _ h=>h.elim))
   refine hK _ _ ?_
   clear hK K
   refine wpList_nil ?_
   refine And.intro ?_ ?_
   ·go_simp
   refine ae rfl rfl (fun K hK=>?_);go_simp;refine hK _ ?_;clear hK K
   refine ah ?_
   clear hk1 x0 x1 x2 xf y0 y1 y2 uC
   rw [vu.out]at yV
   generalize ak x k=c at *
   by_cases hneg:c<0
   ·have hw2:IntKind.i64.wrap ((M:Int)+1)=(M:Int)+1:=IntWalk.i64_in _ (by omega)
    go_wp2_with fail
    go_roundw
    case rel=>exact⟨M+1,b,by go_num,rfl,by omega,by omega,by rw [←AX.out,yV.out,if_pos hneg],uq.out⟩
    case measure=>simp [intOf];omega
   ·go_wp2_with fail
    go_roundw
    case rel=>exact⟨a,M,rfl,rfl,by omega,by omega,by rw [←AX.out,yV.out,if_neg hneg],uq.out⟩
    case measure=>simp [intOf];omega
  ·have hba:bq keys k=a:=by rw [←AX.out];exact tO hlt
   have AH:=CM hba
   have haN:a≤N:=by omega
   clear hba
   by_cases hend:a<N
   ·have hN':=HN.out
    obtain⟨g,o,rfl⟩:∃g o,ao=some ⟨g,o,none⟩:=by
     rcases hrd.2.2 with ⟨_,_,hv,_,_,_,hcell⟩
     cases hv
     rcases hcell with h0|⟨g,o,h,_⟩
     ·omega
     ·exact⟨g,o,h⟩
    obtain⟨x,hx⟩:∃x,keys[a]?=some x:=⟨keys[a]'(by omega),List.getElem?_eq_getElem (by omega)⟩
    obtain⟨y0,y1,y2⟩:=aM hrd hx
    have vu:=CM (kr k hx)
    clear hx
    clear hrd hN'
    go_upto_region 8 with (fail)
    have uC:=CM (bQ x k wr.drew)
    refine af [(0,false,999),(1,false,11),(2,false,11),(3,false,11),(4,false,11),(5,false,11),(6,false,11),(7,false,11),(8,false,11),(9,false,11),(10,false,11),(11,true,0),(12,false,999),(13,false,999),(14,false,999),(15,false,999)] (by kernel_rfl) (by kernel_rfl) ?_
    iterate 5 (refine ae rfl rfl (fun K hK=>?_);go_simp;refine hK _ ?_;clear hK K)
    iterate 6 (first|(refine al rfl rfl ?_;simp only [Act.put,CO,CP,CQ,CR,CT,CU])|(refine ai rfl rfl (fun K hK=>?_);go_simp;refine hK _ ?_;clear hK K))
    refine ag rfl ?_
    refine au rfl (fun K hK=>?_)
    go_simp
    refine uC.out.mono ?_
    rintro e1 w1 ⟨rfl,hk1⟩
    have uq:=CM (uB.out.trans (vh.out.trans (((Kept.refl (fun _=>False) wr).drew).trans hk1 (fun _ h=>h.elim)) (fun _ h=>h.elim)) (fun _ h=>h.elim))
    have wB:=CM (show dI keys k=(ak x k == 0) by unfold dI;rw [AH.out,HN.out,vu.out];simp [hend];rfl)
    refine hK _ _ ?_
    clear hK K
    refine wpList_nil ?_
    refine And.intro ?_ ?_
    ·go_simp
    first|(refine al rfl rfl ?_;simp only [Act.put,CO,CP,CQ,CR,CT,CU])|(refine ai rfl rfl (fun K hK=>?_);go_simp;refine hK _ ?_;clear hK K)
    iterate 3 (refine ae rfl rfl (fun K hK=>?_);go_simp;refine hK _ ?_;clear hK K)
    refine ah ?_
    clear hk1 x0 x1 x2 xf y0 y1 y2 uC
    go_wp2_with fail
    go_ret2
    exact⟨by rw [AH.out,wB.out];rfl,uq.out⟩
   ·obtain rfl:a=N:=by omega
    have wB:=CM (show dI keys k=false by unfold dI;rw [AH.out,HN.out];simp)
    have uq:=CM (uB.out.trans vh.out (fun _ h=>h.elim))
    clear hrd
    go_upto_region 8 with (fail)
    refine af [(0,false,999),(1,false,11),(2,false,11),(3,false,11),(4,false,11),(5,false,11),(6,false,11),(7,false,11),(8,false,11),(9,false,11),(10,false,11),(11,true,0),(12,false,999),(13,false,999),(14,false,999),(15,false,999)] (by kernel_rfl) (by kernel_rfl) ?_
    iterate 5 (refine ae rfl rfl (fun K hK=>?_);go_simp;refine hK _ ?_;clear hK K)
    iterate 6 (first|(refine al rfl rfl ?_;simp only [Act.put,CO,CP,CQ,CR,CT,CU])|(refine ai rfl rfl (fun K hK=>?_);go_simp;refine hK _ ?_;clear hK K))
    refine ag rfl ?_
    refine bW rfl ?_
    simp only [Act.put,CO,CP,CQ]
    refine wpList_nil ?_
    refine And.intro ?_ ?_
    ·go_simp
    first|(refine al rfl rfl ?_;simp only [Act.put,CO,CP,CQ,CR,CT,CU])|(refine ai rfl rfl (fun K hK=>?_);go_simp;refine hK _ ?_;clear hK K)
    iterate 3 (refine ae rfl rfl (fun K hK=>?_);go_simp;refine hK _ ?_;clear hK K)
    refine ah ?_
    go_wp2_with fail
    go_ret2
    exact⟨by rw [AH.out,wB.out];rfl,uq.out.drew⟩
end Go.Proofs.YtdobimafhbfkhaaGreat
