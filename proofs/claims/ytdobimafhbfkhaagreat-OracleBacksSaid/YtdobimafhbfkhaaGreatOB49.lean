/- The document's Size, part, May of predicates (ratlineref03). (printed by genrm2.py) -/
import Derived.Test.YtdobimafhbfkhaaGreatOB48
import Derived.Test.YtdobimafhbfkhaaGreatOB10
set_option maxHeartbeats 64000000
namespace Go.Proofs.YtdobimafhbfkhaaGreat
open Go.ChangeShapes Go.WideShapes Go.ChangeAt Go.RowKit
set_option maxRecDepth 100000
set_option linter.unusedSimpArgs false
def fS (es:List PredE)(j:Nat):Nat:=1+((es.take j).flatMap (fun e=>e.p.nodes)).length
theorem nH {es:List PredE}{j:Nat}{e:PredE}(he:es[j]?=some e):fS es (j+1)=fS es j+e.p.nodes.length:=by
 unfold fS
 rw [List.take_add_one,he,List.flatMap_append,List.length_append]
 simp
 omega
theorem re (es:List PredE)(j:Nat):fS es j≤1+(es.flatMap (fun e=>e.p.nodes)).length:=by
 unfold fS
 have h2:es.flatMap (fun e=>e.p.nodes)=(es.take j).flatMap (fun e=>e.p.nodes)++(es.drop j).flatMap (fun e=>e.p.nodes):=by rw [←List.flatMap_append,List.take_append_drop]
 rw [h2,List.length_append]
 omega
theorem tr : ∀(p:PredT) (x:PredE) (w:World),x.p=p→p.nodes.length≤1000000→PredsRd w (.slice x.la x.ln x.lc) x.subs →
  Calls Tryz.prog 30 #[.agg x.cells.toArray] w fun e w'=>e = .returned (.int .i64 (p.nodes.length:Int))∧Kept (fun _=>False) w w':=by
 refine PredT.ind fun op col v w0 pl ih x w hx hn hat=>?_
 have hl:x.subs=pl:=by unfold PredE.p at hx;cases hx;rfl
 obtain⟨W1,hW1,hk1,hb1⟩:∃W,W=w.alloc (.cells x.cells.toArray tPr)∧Kept (fun _=>False) w W∧W.heap[w.heap.size]?=some (.cells x.cells.toArray tPr (0,0)):=⟨_,rfl,(Kept.refl _ _).alloc _,au _ _⟩
 have hat1:=hat.kept hk1
 obtain⟨es,hrd,hsub,hes⟩:∃es:List PredE,Rd W1 9 (.slice x.la x.ln x.lc) es.length (es.flatMap PredE.cells)∧x.subs=es.map PredE.p∧∀e∈es,PredsRd W1 (.slice e.la e.ln e.lc) e.subs:=by
  generalize x.subs=xs at hat1
  cases hat1 with
  | mk _ es he hes=>exact⟨es,he,rfl,hes⟩
 have hne:(PredT.mk op col v w0 pl).nodes.length=1+(es.flatMap (fun e=>e.p.nodes)).length:=by rw [kw,←hl,hsub,List.flatMap_map,List.length_cons];omega
 have wi:=B5 hne
 rw [hne]at hn
 obtain⟨_,_,ra,rc,hav,_⟩:=id hrd
 have hln:x.ln=es.length:=(Value.slice.inj hav).2.1
 have hml:=hrd.2.1
 unfold maxLen at hml
 obtain⟨N,hN⟩:∃N,es.length=N:=⟨_,rfl⟩
 rw [hln,hN]at hrd
 rw [hN]at hml
 have vw:=B5 (show ∀(j:Nat) (e:PredE) (W:World),es[j]?=some e→Kept (fun _=>False) W1 W→Calls Tryz.prog 30 #[.agg e.cells.toArray] W fun r w'=>r = .returned (.int .i64 (e.p.nodes.length:Int))∧Kept (fun _=>False) W w' from
  fun j e W he k=>ih e.p (by rw [←hl,hsub];exact List.mem_map_of_mem (List.mem_of_getElem? he)) e W rfl (by
   have h1:e.p.nodes.length≤(es.flatMap (fun e=>e.p.nodes)).length:=by
    obtain⟨a,b,rfl⟩:=List.append_of_mem (List.mem_of_getElem? he)
    simp
    omega
   omega) ((hes e (List.mem_of_getElem? he)).kept k))
 have tM:=B5 hrd
 have HN:=B5 hN
 have vq:=B5 (show x.ln=N by rw [hln,hN])
 have tE:=B5 hW1
 have tK:=B5 hk1
 have tF:=B5 hb1
 obtain⟨rr,hrr⟩:∃rr:Int,rr=((PredT.mk op col v w0 pl).nodes.length:Int):=⟨_,rfl⟩
 rw [←hrr]
 have wG:=B5 hrr
 clear ih hx hat hat1 hl hsub hes hrd hav hln hne hN hW1 hk1 hb1 hrr
 go_enter Tryz.func30,Tryz.ntmps30
 go_upto_region 1 with fail
 rw [←tE.out]
 clear tE
 generalize w.heap.size=bx at *
 obtain⟨la,hla⟩:∃la,la=x.la:=⟨_,rfl⟩
 obtain⟨lc,hlc⟩:∃lc,lc=x.lc:=⟨_,rfl⟩
 have HB:=B5 (show ∀W,Kept (fun _=>False) W1 W→W.cell? ⟨bx,8,none⟩=some (.slice la N lc)from fun W k=>by
  obtain⟨_,_,_,_,_,_,_,_,h8⟩:=be (ak k tF.out)
  rw [vq.out,←hla,←hlc]at h8
  exact h8)
 rw [←hla,←hlc]at tM
 clear hla hlc
 go_wp2_with fail
 go_loopw [3,4] (fun u i wr=>∃j:Nat,i = .int .i64 j∧u = .int .i64 (fS es j:Int)∧j≤N∧Kept (fun _=>False) W1 wr) (fun _ i _=>N-(intOf i).toNat)
 case atStart=>exact⟨0,rfl,rfl,by omega,Kept.refl _ _⟩
 case round =>
  obtain⟨j,rfl,rfl,hj,hk⟩:=hrel
  have HK:=B5 hk
  have x8:=HB.out wr hk
  clear hk
  by_cases hlt:j<N
  ·have hii:(j:Int)<(N:Int):=by omega
   obtain⟨e,he⟩:∃e,es[j]?=some e:=⟨es[j]'(by rw [HN.out];exact hlt),List.getElem?_eq_getElem _⟩
   obtain⟨g,og,rfl,hrng⟩:=bJ PredE.len (Rd.kept tM.out HK.out (fun _ _ h=>h)) he HN.out
   have HL:=B5 (dN hrng)
   have HC:=B5 (vw.out j e wr he HK.out)
   have uX:=B5 (nH he)
   have hb:=re es (j+1)
   rw [uX.out]at hb
   clear he hrng
   generalize fS es j=a at *
   generalize e.p.nodes.length=b at *
   have hw:IntKind.i64.wrap ((a:Int)+(b:Int))=(a:Int)+(b:Int):=IntWalk.i64_in _ (by omega)
   go_wp2_with (first|(refine bF rfl _ _ rfl _ _ rfl _ HL.out ?_)|(go_at_call 30;refine HC.out.mono ?_;rintro e4 w4 ⟨rfl,hk4⟩;have uF:=B5 (HK.out.trans hk4 (fun _ h=>h.elim));clear hk4 HC HL))
   go_roundw
   case rel=>exact⟨j+1,by go_num,by rw [uX.out];go_num,by omega,uF.out⟩
   case measure=>simp [intOf];omega
  ·have hii:¬((j:Int)<(N:Int)):=by omega
   have HT:=B5 (show fS es j=1+(es.flatMap (fun e=>e.p.nodes)).length by unfold fS;rw [List.take_of_length_le (by rw [HN.out];omega)])
   go_wp2_with fail
   go_ret
   exact⟨by rw [wG.out,wi.out,←HT.out];rfl,tK.out.trans HK.out (fun _ h=>h.elim)⟩
end Go.Proofs.YtdobimafhbfkhaaGreat
