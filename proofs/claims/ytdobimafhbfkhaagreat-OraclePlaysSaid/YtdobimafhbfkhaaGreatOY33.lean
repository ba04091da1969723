/- Going through a predicate's parts (pred.each); how many there are; whether it may be .., and what follows. -/
import Derived.Test.YtdobimafhbfkhaaGreatOY32
set_option maxHeartbeats 64000000
namespace Go.Proofs.YtdobimafhbfkhaaGreat
open Go.ChangeShapes Go.WideShapes Go.ChangeAt Go.RowKit
set_option maxRecDepth 100000
set_option linter.unusedSimpArgs false
theorem sh {B:World}{D:PH}{S:Type}(H:S→HP)(step:S→PredT→S){F:Nat}{first caps:Array Value}(hent:Enters Tryz.prog F)
  (HF:∀(x:PredE) (s:S) (W:World) (X:List HP),x.ln=x.subs.length→Sat B D W (H s::X)→Calls Tryz.prog F (first ++ #[.agg x.cells.toArray]++caps) W fun e W'=>e = .returned (.tuple #[])∧Sat B D W' (H (step s x.p)::X)) :
  ∀(p:PredT) (x:PredE) (s:S) (w:World) (X:List HP),x.p=p→PredsAt D (.slice x.la x.ln x.lc) x.subs→Sat B D w (H s::X) →
   Calls Tryz.prog 47 #[.agg x.cells.toArray,.func (.func F) first caps] w fun e w'=>e = .returned (.tuple #[])∧Sat B D w' (H (p.nodes.foldl step s)::X):=by
 refine PredT.ind fun op col v w0 pl ih x s w X hx hat hs=>?_;have hl:x.subs=pl:=by unfold PredE.p at hx;cases hx;rfl
 obtain⟨es,hrd,hsub,hes⟩:∃es:List PredE,RdP D 9 (.slice x.la x.ln x.lc) es.length (es.flatMap PredE.cells)∧x.subs=es.map PredE.p∧∀e∈es,PredsAt D (.slice e.la e.ln e.lc) e.subs:=by
  generalize x.subs=xs at hat;cases hat with
  | mk _ es he hes=>exact⟨es,he,rfl,hes⟩
 have yZ:=FH (show ∀(e:PredE) (s:S) (w:World) (X:List HP),e∈es→Sat B D w (H s::X)→Calls Tryz.prog 47 #[.agg e.cells.toArray,.func (.func F) first caps] w fun r w'=>r = .returned (.tuple #[])∧Sat B D w' (H (e.p.nodes.foldl step s)::X)from
  fun e s w X he hs=>ih e.p (by rw [←hl,hsub];exact List.mem_map_of_mem he) e s w X rfl (hes e he) hs)
 obtain⟨_,_,ra,rc,hav,_⟩:=id hrd;have hln:x.ln=es.length:=(Value.slice.inj hav).2.1;obtain⟨W1,hW1,hs1⟩:=Sat.hide (hs.alloc x.cells.toArray tPr);have HC:=FH (HF x s W1 (blk w.heap.size x.cells.toArray tPr::X) (by rw [hln,hsub,FZ]) hs1.swap);have HL:=FH (dh (aj (hs1.blk 0 rfl)));have HG:=FH (show(PredT.mk op col v w0 pl).nodes.foldl step s=(es.flatMap (fun e=>e.p.nodes)).foldl step (step s x.p) by
  rw [iz,List.foldl_cons,←hx,←hl,hsub,List.flatMap_map])
 rw [HG.out];have wQ:=FH hrd;have wM:=FH hW1;have yg:=FH hln;have hle:=hrd.2.1;unfold maxLen at hle;clear ih hx hat hs hs1 hW1 hl hsub hes hrd hav hln HF HG;unfold Enters at hent;generalize step s x.p=s1 at *;go_enter Tryz.func47,Tryz.ntmps47;go_upto_region 1 with fail
 rw [←wM.out];clear wM;generalize w.heap.size=bx at HC HL ⊢;go_upto_region 2 with (first|(refine aV rfl _ _ rfl _ _ rfl _ HL.out ?_)|(refine HC.out.mono ?_;rintro e1 w1 ⟨rfl,hs2⟩;have wJ:=FH hs2;clear hs2 HC HL))
 clear hent;obtain⟨x0,x1,x2,x3,x4,x5,x6,x7,x8⟩:=cu (wJ.out.blk 1 rfl);rw [yg.out]at x8 wQ;obtain⟨N,hN⟩:∃N,es.length=N:=⟨_,rfl⟩;rw [hN]at x8 wQ hle;have HN:=FH hN;obtain⟨la,hla⟩:∃la,la=x.la:=⟨_,rfl⟩;obtain⟨lc,hlc⟩:∃lc,lc=x.lc:=⟨_,rfl⟩;rw [←hla,←hlc]at x8 wQ;clear hN yg hla hlc;go_wp2_with fail;clear x0 x1 x2 x3 x4 x5 x6 x7 x8
 go_loopw [12] (fun i wr=>∃j:Nat,i = .int .i64 j∧j≤N∧Sat B D wr (H (((es.take j).flatMap (fun e=>e.p.nodes)).foldl step s1)::blk bx x.cells.toArray tPr::X)) (fun i _=>N-(intOf i).toNat)
 case atStart=>exact⟨0,rfl,by omega,wJ.out⟩
 case round =>
  obtain⟨j,rfl,hj,hs3⟩:=hrel;have wI:=FH hs3;clear hs3 wJ;by_cases hlt:j<N
  ·have hji:(j:Int)<(N:Int):=by omega
   obtain⟨e,he⟩:∃e,es[j]?=some e:=⟨es[j]'(by rw [HN.out];exact hlt),FP _⟩;obtain⟨g,og,rfl,hrng⟩:=bi PredE.len (wQ.out.rd wI.out) he HN.out;have wU:=FH (dh hrng);have xm:=FH (show((es.take (j+1)).flatMap (fun e=>e.p.nodes)).foldl step s1=e.p.nodes.foldl step (((es.take j).flatMap (fun e=>e.p.nodes)).foldl step s1) by
    rw [F3,he,FT,List.foldl_append];simp)
   have AW:=FH (FQ he);have wO:=FH (wI.out.alloc e.cells.toArray tPr);clear he hrng;generalize hsg:((es.take j).flatMap (fun e=>e.p.nodes)).foldl step s1=sg at *;go_upto_region 5 with (first|(refine aV rfl _ _ rfl _ _ rfl _ wU.out ?_)|(refine cI rfl _ _ _ rfl e.cells _ _ rfl rfl (by kernel_rfl) rfl (PredE.one e) ?_))
   obtain⟨W5,hW5,hs5⟩:=Sat.hide wO.out;rw [←hW5];clear hW5 wO wI wU;generalize wr.heap.size=b5 at hs5 ⊢;have EF:=FH (dh (aj (hs5.blk 0 rfl)));have EG:=FH (yZ.out e sg W5 _ AW.out hs5.swap);clear hs5;go_wp2_with (first|(refine aV rfl _ _ rfl _ _ rfl _ EF.out ?_)|(go_at_call 47;refine EG.out.mono ?_;rintro e6 w6 ⟨rfl,hs6⟩;have wK:=FH hs6;clear hs6 EG EF));go_roundw
   case rel=>exact⟨j+1,by go_num,by omega,by rw [xm.out];exact wK.out.swap.drop⟩
   case measure=>simp [intOf];omega
  ·have hji:¬((j:Int)<(N:Int)):=by omega
   obtain rfl:j=N:=by omega
   have HT:=FH (show es.take j=es by rw [←HN.out,List.take_length]);go_wp2_with fail;go_end0;exact⟨rfl,by rw [HT.out]at wI;exact wI.out.swap.drop⟩
def gZ (n:Int)(_:PredT):Int:=IntKind.i64.wrap (n+1)
theorem pF : ∀(l:List PredT) (n:Nat),n+l.length≤1000000→l.foldl gZ (n:Int)=((n+l.length:Nat):Int)
 | [],n,_=>rfl
 | p::l,n,h=>by
  simp only [List.length_cons]at h;rw [List.foldl_cons];have:gZ (n:Int) p=((n+1:Nat):Int):=by
   unfold gZ;rw [Gr _ (by omega)];omega
  rw [this,pF l (n+1) (by omega)];simp only [List.length_cons];omega
theorem su (c:List Bool):∀(l:List PredT) (b:Bool),l.foldl (fun b p=>b || !aI c p) b=(b || !l.all (aI c))
 | [],b=>by simp
 | p::l,b=>by
  rw [List.foldl_cons,su c l];simp only [List.all_cons];cases b<;>cases aI c p<;>simp
theorem set1_S {B w:World}{D:PH}{l:List HP}{b:Nat}{t:TypeId}{y:Value}(hs:Sat B D w (Proofs.YtdobimafhbfkhaaGreat.blk b #[y] t::l))(u:Value):Sat B D (w.setCell ⟨b,0,none⟩ u) (Proofs.YtdobimafhbfkhaaGreat.blk b #[u] t::l):=hs.set 0 u
theorem sizeF {B:World}{D:PH}{nb:Nat}(x:PredE)(s:Int)(W:World)(X:List HP)(h:Sat B D W (blk nb #[.int .i64 s] 3::X)) :
  Calls Tryz.prog 49 (#[] ++ #[.agg x.cells.toArray] ++ #[.pointer (some ⟨nb,0,none⟩)]) W fun e W'=>e = .returned (.tuple #[])∧Sat B D W' (blk nb #[.int .i64 (gZ s x.p)] 3::X):=by
 obtain⟨W1,hW1,hs1⟩:=Sat.hide (h.alloc x.cells.toArray tPr);have wM:=FH hW1;obtain⟨n0,nf⟩:=aC (hs1.blk 1 rfl);have wG:=FH (set1_S hs1.swap (.int .i64 (IntKind.i64.wrap (s+1))));clear h hs1 hW1
 show Calls Tryz.prog 49 #[.agg x.cells.toArray,.pointer (some ⟨nb,0,none⟩)] W _;go_enter Tryz.func49,Tryz.ntmps49;go_upto_region 1 with fail
 rw [←wM.out];clear wM;go_wp2_with fail;go_end0;have h9:=wG.out.swap.drop;rw [IntWalk.i64_left]at h9;refine⟨rfl,?_⟩;unfold gZ;rw [IntWalk.i64_left];exact h9
theorem qV {B w:World}{D:PH}{l:List HP}(x:PredE)(hat:PredsAt D (.slice x.la x.ln x.lc) x.subs)(hn:x.p.nodes.length≤1000000)(h:Sat B D w l) :
  Calls Tryz.prog 36 #[.agg x.cells.toArray] w fun e w'=>e = .returned (.int .i64 (x.p.nodes.length:Int))∧Sat B D w' l:=by
 obtain⟨W1,hW1,hs1⟩:=fu h x.cells.toArray #[.int .i64 0] tPr 3;have wM:=FH hW1;have HL:=FH (dh (aj (hs1.blk 0 rfl)));have B7:=FH (sh (fun n:Int=>blk (w.heap.size+1) #[.int .i64 n] 3) gZ (F:=49) (first:=#[]) (caps:=#[.pointer (some ⟨w.heap.size+1,0,none⟩)]) (enters_of Tryz.func49 (by kernel_rfl) rfl) (fun y s W X _ hX=>sizeF y s W X hX) x.p x 0 W1 (blk w.heap.size x.cells.toArray tPr::l) rfl hat hs1.swap);have HC:=FH (pF x.p.nodes 0 (by omega));clear h hs1 hW1 hat hn;go_enter Tryz.func36,Tryz.ntmps36;go_upto_region 2 with fail
 rw [←wM.out];clear wM;generalize w.heap.size+1=bn at B7 ⊢;generalize w.heap.size=bx at HL B7 ⊢;go_upto_region 3 with (first|(refine aV rfl _ _ rfl _ _ rfl _ HL.out ?_)|(go_at_call 47;refine B7.out.mono ?_;rintro e1 w1 ⟨rfl,hs2⟩;have wJ:=FH hs2;clear hs2 B7 HL))
 obtain⟨n0,_⟩:=aC (wJ.out.blk 0 rfl);rw [show List.foldl gZ 0 x.p.nodes=(x.p.nodes.length:Int)from by have:=HC.out;simpa using this]at n0;go_wp2_with fail;go_ret;exact⟨rfl,wJ.out.drop.drop⟩
theorem cells2v {w:World}{b:Nat}{y0 y1:Value}{t:TypeId}(h:w.heap[b]?=some (.cells #[y0,y1] t (0,0))):w.cell? ⟨b,0,none⟩=some y0∧w.cell? ⟨b,1,none⟩=some y1∧(∀j,w.frozen? ⟨b,j,none⟩=false):=dA h
theorem rF {B w:World}{D:PH}{l:List HP}{cv:Value}{c:List Bool}(x:PredE)(hc:RdP D 1 cv c.length (c.flatMap dt))(hm:cj c=true)(hat:PredsAt D (.slice x.la x.ln x.lc) x.subs)(hn:x.p.nodes.length≤1000000)(h:Sat B D w l) :
  Calls Tryz.prog 33 #[.agg #[cv],.agg x.cells.toArray] w fun e w'=>e = .returned (.int .i64 (if bY c x.p then 0 else 30))∧Sat B D w' l:=by
 obtain⟨rr,hrr⟩:∃rr:Int,rr=(if bY c x.p then 0 else 30):=⟨_,rfl⟩;rw [←hrr];have xD:=FH hrr;clear hrr;obtain⟨W1,hW1,hs1⟩:=fu h #[cv] x.cells.toArray bN tPr;have wM:=FH hW1;have wG:=FH hs1;have HL:=FH (dh (aj (hs1.blk 1 rfl)));have B8:=FH (gq (hc.rd hs1));rw [show chk c=0 by unfold chk;rw [hm];rfl]at B8;obtain⟨t0,tf⟩:=aC (hs1.blk 0 rfl);obtain⟨_,_,ca,cc,rfl,_⟩:=id hc;have HC:=FH hc;have Bw:=FH hat;have yV:=FH hn;clear h hs1 hW1 hc hat hn hm;go_enter Tryz.func33,Tryz.ntmps33;go_upto_region 1 with fail
 rw [←wM.out];clear wM;generalize w.heap.size+1=b2 at *;generalize w.heap.size=b1 at *;go_upto_region 4 with (go_at_call 31;refine B8.out.mono ?_;rintro e1 w1 ⟨rfl,hk1⟩;have wJ:=FH (wG.out.kept hk1);clear hk1 B8 wG HL t0 tf)
 obtain⟨t0,tf⟩:=aC (wJ.out.blk 0 rfl);have wI:=FH (wJ.out.alloc #[.slice ca c.length cc,.bool false] tCk);go_upto_region 6 with fail
 obtain⟨W4,hW4,hs4⟩:=Sat.hide wI.out;rw [←hW4];clear hW4 wI wJ t0 tf;generalize w1.heap.size=ck at hs4 ⊢;have HL:=FH (dh (aj (hs4.blk 2 rfl)));have B7:=FH (sh (fun b:Bool=>blk ck #[.slice ca c.length cc,.bool b] tCk) (fun b p=>b || !aI c p) (F:=46) (first:=#[.pointer (some ⟨ck,0,none⟩)]) (caps:=#[]) (enters_of Tryz.func46 (by kernel_rfl) rfl) (fun y s W X hy hX=>part_ok y hy (fun W2 k=>HC.out.rd (hX.kept k)) hX) x.p x false W4 _ rfl Bw.out hs4);have Fh:=FH (su c x.p.nodes false);clear hs4;go_upto_region 7 with (first|(refine aV rfl _ _ rfl _ _ rfl _ HL.out ?_)|(go_at_call 47;refine B7.out.mono ?_;rintro e5 w5 ⟨rfl,hs5⟩;have wT:=FH hs5;clear hs5 B7 HL))
 rw [Fh.out]at wT;obtain⟨k0,k1,kf⟩:=cells2v (wT.out.blk 0 rfl);have HL:=FH (dh (aj (wT.out.blk 2 rfl)));have xl:=FH (qV x Bw.out yV.out wT.out);cases ha:x.p.nodes.all (aI c)
 ·have HO:=FH (show(if bY c x.p then (0:Int)else 30)=30 by unfold bY;rw [ha];rfl)
  rw [ha,show(false || !false)=true from rfl]at k1;clear ha;go_wp2_with fail;go_ret;exact⟨by rw [xD.out,HO.out];rfl,wT.out.drop.drop.drop⟩
 ·rw [ha,show(false || !true)=false from rfl]at k1
  obtain⟨N,hN⟩:∃N,x.p.nodes.length=N:=⟨_,rfl⟩;rw [hN]at xl;by_cases h15:N≤15
  ·have HO:=FH (show(if bY c x.p then (0:Int)else 30)=0 by unfold bY;rw [ha,hN,F5 h15];rfl)
   have h1:¬(N:Int) > 15:=by omega
   clear ha hN;go_wp2_with (first|(refine gL rfl _ _ rfl _ _ rfl _ HL.out ?_)|(go_at_call 36;refine xl.out.mono ?_;rintro e6 w6 ⟨rfl,hs6⟩;have wK:=FH hs6;clear hs6 xl HL k0 k1 kf));go_ret;exact⟨by rw [xD.out,HO.out];rfl,wK.out.drop.drop.drop⟩
  ·have HO:=FH (show(if bY c x.p then (0:Int)else 30)=30 by unfold bY;rw [ha,hN,FY h15];rfl)
   have h1:(N:Int) > 15:=by omega
   clear ha hN;go_wp2_with (first|(refine gL rfl _ _ rfl _ _ rfl _ HL.out ?_)|(go_at_call 36;refine xl.out.mono ?_;rintro e6 w6 ⟨rfl,hs6⟩;have wK:=FH hs6;clear hs6 xl HL k0 k1 kf));go_ret;exact⟨by rw [xD.out,HO.out];rfl,wK.out.drop.drop.drop⟩
end Go.Proofs.YtdobimafhbfkhaaGreat
