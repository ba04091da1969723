/- Joined texts: Going through a predicate's parts (pred.each); how many there are; whether it may be (pred.Check). Whether a predicate may be: pred.Size, pred.Check. -/
import Derived.Test.YtdobimafhbfkhaaGreatOT41
set_option maxHeartbeats 64000000
namespace Go.Proofs.YtdobimafhbfkhaaGreat
open Go.ChangeShapes Go.WideShapes Go.ChangeAt Go.RowKit
set_option maxRecDepth 100000
set_option linter.unusedSimpArgs false
theorem qq {B:World}{D:PH}{S:Type}(H:S→HP)(step:S→PredT→S){F:Nat}{first caps:Array Value}(hent:Enters Tryz.prog F)
  (HF:∀(x:PredE) (s:S) (W:World) (X:List HP),x.ln=x.subs.length→Sat B D W (H s::X)→Calls Tryz.prog F (first ++ #[.agg x.cells.toArray]++caps) W fun e W'=>e = .returned (.tuple #[])∧Sat B D W' (H (step s x.p)::X)) :
  ∀(p:PredT) (x:PredE) (s:S) (w:World) (X:List HP),x.p=p→PredsAt D (.slice x.la x.ln x.lc) x.subs→Sat B D w (H s::X) →
   Calls Tryz.prog 47 #[.agg x.cells.toArray,.func (.func F) first caps] w fun e w'=>e = .returned (.tuple #[])∧Sat B D w' (H (p.nodes.foldl step s)::X):=by
 refine PredT.ind fun op col v w0 pl ih x s w X hx hat hs=>?_
 have hl:x.subs=pl:=by unfold PredE.p at hx;cases hx;rfl
 obtain⟨es,hrd,hsub,hes⟩:∃es:List PredE,RdP D 9 (.slice x.la x.ln x.lc) es.length (es.flatMap PredE.cells)∧x.subs=es.map PredE.p∧∀e∈es,PredsAt D (.slice e.la e.ln e.lc) e.subs:=by
  generalize x.subs=xs at hat
  cases hat with
  | mk _ es he hes=>exact⟨es,he,rfl,hes⟩
 have vY:=CM (show ∀(e:PredE) (s:S) (w:World) (X:List HP),e∈es→Sat B D w (H s::X)→Calls Tryz.prog 47 #[.agg e.cells.toArray,.func (.func F) first caps] w fun r w'=>r = .returned (.tuple #[])∧Sat B D w' (H (e.p.nodes.foldl step s)::X)from
  fun e s w X he hs=>ih e.p (by rw [←hl,hsub];exact List.mem_map_of_mem he) e s w X rfl (hes e he) hs)
 obtain⟨_,_,ra,rc,hav,_⟩:=id hrd
 have hln:x.ln=es.length:=(Value.slice.inj hav).2.1
 obtain⟨W1,hW1,hs1⟩:=Sat.hide (hs.alloc x.cells.toArray tPr)
 have HC:=CM (HF x s W1 (blk w.heap.size x.cells.toArray tPr::X) (by rw [hln,hsub,List.length_map]) hs1.swap)
 have HL:=CM (dp (aA (hs1.blk 0 rfl)))
 have HG:=CM (show(PredT.mk op col v w0 pl).nodes.foldl step s=(es.flatMap (fun e=>e.p.nodes)).foldl step (step s x.p) by
  rw [iV,List.foldl_cons,←hx,←hl,hsub,List.flatMap_map])
 rw [HG.out]
 have uw:=CM hrd
 have ul:=CM hW1
 have vW:=CM hln
 have hle:=hrd.2.1
 unfold maxLen at hle
 clear ih hx hat hs hs1 hW1 hl hsub hes hrd hav hln HF HG
 unfold Enters at hent
 generalize step s x.p=s1 at *
 go_enter Tryz.func47,Tryz.ntmps47
 go_upto_region 1 with fail
 rw [←ul.out]
 clear ul
 generalize w.heap.size=bx at HC HL ⊢
 go_upto_region 2 with (first|(refine bG rfl _ _ rfl _ _ rfl _ HL.out ?_)|(refine HC.out.mono ?_;rintro e1 w1 ⟨rfl,hs2⟩;have ur:=CM hs2;clear hs2 HC HL))
 clear hent
 obtain⟨x0,x1,x2,x3,x4,x5,x6,x7,x8⟩:=bh (ur.out.blk 1 rfl)
 rw [vW.out]at x8 uw
 obtain⟨N,hN⟩:∃N,es.length=N:=⟨_,rfl⟩
 rw [hN]at x8 uw hle
 have HN:=CM hN
 obtain⟨la,hla⟩:∃la,la=x.la:=⟨_,rfl⟩
 obtain⟨lc,hlc⟩:∃lc,lc=x.lc:=⟨_,rfl⟩
 rw [←hla,←hlc]at x8 uw
 clear hN vW hla hlc
 go_wp2_with fail
 clear x0 x1 x2 x3 x4 x5 x6 x7 x8
 go_loopw [12] (fun i wr=>∃j:Nat,i = .int .i64 j∧j≤N∧Sat B D wr (H (((es.take j).flatMap (fun e=>e.p.nodes)).foldl step s1)::blk bx x.cells.toArray tPr::X)) (fun i _=>N-(intOf i).toNat)
 case atStart=>exact⟨0,rfl,by omega,ur.out⟩
 case round =>
  obtain⟨j,rfl,hj,hs3⟩:=hrel
  have ut:=CM hs3
  clear hs3 ur
  by_cases hlt:j<N
  ·have hji:(j:Int)<(N:Int):=by omega
   obtain⟨e,he⟩:∃e,es[j]?=some e:=⟨es[j]'(by rw [HN.out];exact hlt),List.getElem?_eq_getElem _⟩
   obtain⟨g,og,rfl,hrng⟩:=bK PredE.len (uw.out.rd ut.out) he HN.out
   have uF:=CM (dp hrng)
   have vk:=CM (show((es.take (j+1)).flatMap (fun e=>e.p.nodes)).foldl step s1=e.p.nodes.foldl step (((es.take j).flatMap (fun e=>e.p.nodes)).foldl step s1) by
    rw [List.take_add_one,he,List.flatMap_append,List.foldl_append];simp)
   have x9:=CM (List.mem_of_getElem? he)
   have uy:=CM (ut.out.alloc e.cells.toArray tPr)
   clear he hrng
   generalize hsg:((es.take j).flatMap (fun e=>e.p.nodes)).foldl step s1=sg at *
   go_upto_region 5 with (first|(refine bG rfl _ _ rfl _ _ rfl _ uF.out ?_)|(refine cZ rfl _ _ _ rfl e.cells _ _ rfl rfl (by kernel_rfl) rfl (PredE.one e) ?_))
   obtain⟨W5,hW5,hs5⟩:=Sat.hide uy.out
   rw [←hW5]
   clear hW5 uy ut uF
   generalize wr.heap.size=b5 at hs5 ⊢
   have AV:=CM (dp (aA (hs5.blk 0 rfl)))
   have B1:=CM (vY.out e sg W5 _ x9.out hs5.swap)
   clear hs5
   go_wp2_with (first|(refine bG rfl _ _ rfl _ _ rfl _ AV.out ?_)|(go_at_call 47;refine B1.out.mono ?_;rintro e6 w6 ⟨rfl,hs6⟩;have uu:=CM hs6;clear hs6 B1 AV))
   go_roundw
   case rel=>exact⟨j+1,by go_num,by omega,by rw [vk.out];exact uu.out.swap.drop⟩
   case measure=>simp [intOf];omega
  ·have hji:¬((j:Int)<(N:Int)):=by omega
   obtain rfl:j=N:=by omega
   have HT:=CM (show es.take j=es by rw [←HN.out,List.take_length])
   go_wp2_with fail
   go_end0
   exact⟨rfl,by rw [HT.out]at ut;exact ut.out.swap.drop⟩
def fE (n:Int)(_:PredT):Int:=IntKind.i64.wrap (n+1)
theorem nV : ∀(l:List PredT) (n:Nat),n+l.length≤1000000→l.foldl fE (n:Int)=((n+l.length:Nat):Int)
 | [],n,_=>rfl
 | p::l,n,h=>by
  simp only [List.length_cons]at h
  rw [List.foldl_cons]
  have:fE (n:Int) p=((n+1:Nat):Int):=by
   unfold fE
   rw [IntWalk.i64_in _ (by omega)]
   omega
  rw [this,nV l (n+1) (by omega)]
  simp only [List.length_cons]
  omega
theorem qG (c:List Bool):∀(l:List PredT) (b:Bool),l.foldl (fun b p=>b || !ar c p) b=(b || !l.all (ar c))
 | [],b=>by simp
 | p::l,b=>by
  rw [List.foldl_cons,qG c l]
  simp only [List.all_cons]
  cases b<;>cases ar c p<;>simp
theorem set1_S {B w:World}{D:PH}{l:List HP}{b:Nat}{t:TypeId}{y:Value}(hs:Sat B D w (Proofs.YtdobimafhbfkhaaGreat.blk b #[y] t::l))(u:Value):Sat B D (w.setCell ⟨b,0,none⟩ u) (Proofs.YtdobimafhbfkhaaGreat.blk b #[u] t::l):=hs.set 0 u
theorem sizeF {B:World}{D:PH}{nb:Nat}(x:PredE)(s:Int)(W:World)(X:List HP)(h:Sat B D W (blk nb #[.int .i64 s] 3::X)) :
  Calls Tryz.prog 49 (#[] ++ #[.agg x.cells.toArray] ++ #[.pointer (some ⟨nb,0,none⟩)]) W fun e W'=>e = .returned (.tuple #[])∧Sat B D W' (blk nb #[.int .i64 (fE s x.p)] 3::X):=by
 obtain⟨W1,hW1,hs1⟩:=Sat.hide (h.alloc x.cells.toArray tPr)
 have ul:=CM hW1
 obtain⟨n0,nf⟩:=aq (hs1.blk 1 rfl)
 have uk:=CM (set1_S hs1.swap (.int .i64 (IntKind.i64.wrap (s+1))))
 clear h hs1 hW1
 show Calls Tryz.prog 49 #[.agg x.cells.toArray,.pointer (some ⟨nb,0,none⟩)] W _
 go_enter Tryz.func49,Tryz.ntmps49
 go_upto_region 1 with fail
 rw [←ul.out]
 clear ul
 go_wp2_with fail
 go_end0
 have h9:=uk.out.swap.drop
 rw [IntWalk.i64_left]at h9
 refine⟨rfl,?_⟩
 unfold fE
 rw [IntWalk.i64_left]
 exact h9
theorem nM {B w:World}{D:PH}{l:List HP}(x:PredE)(hat:PredsAt D (.slice x.la x.ln x.lc) x.subs)(hn:x.p.nodes.length≤1000000)(h:Sat B D w l) :
  Calls Tryz.prog 36 #[.agg x.cells.toArray] w fun e w'=>e = .returned (.int .i64 (x.p.nodes.length:Int))∧Sat B D w' l:=by
 obtain⟨W1,hW1,hs1⟩:=eT h x.cells.toArray #[.int .i64 0] tPr 3
 have ul:=CM hW1
 have HL:=CM (dp (aA (hs1.blk 0 rfl)))
 have zr:=CM (qq (fun n:Int=>blk (w.heap.size+1) #[.int .i64 n] 3) fE (F:=49) (first:=#[]) (caps:=#[.pointer (some ⟨w.heap.size+1,0,none⟩)]) (enters_of Tryz.func49 (by kernel_rfl) rfl) (fun y s W X _ hX=>sizeF y s W X hX) x.p x 0 W1 (blk w.heap.size x.cells.toArray tPr::l) rfl hat hs1.swap)
 have HC:=CM (nV x.p.nodes 0 (by omega))
 clear h hs1 hW1 hat hn
 go_enter Tryz.func36,Tryz.ntmps36
 go_upto_region 2 with fail
 rw [←ul.out]
 clear ul
 generalize w.heap.size+1=bn at zr ⊢
 generalize w.heap.size=bx at HL zr ⊢
 go_upto_region 3 with (first|(refine bG rfl _ _ rfl _ _ rfl _ HL.out ?_)|(go_at_call 47;refine zr.out.mono ?_;rintro e1 w1 ⟨rfl,hs2⟩;have ur:=CM hs2;clear hs2 zr HL))
 obtain⟨n0,_⟩:=aq (ur.out.blk 0 rfl)
 rw [show List.foldl fE 0 x.p.nodes=(x.p.nodes.length:Int)from by have:=HC.out;simpa using this]at n0
 go_wp2_with fail
 go_ret
 exact⟨rfl,ur.out.drop.drop⟩
theorem cells2v {w:World}{b:Nat}{y0 y1:Value}{t:TypeId}(h:w.heap[b]?=some (.cells #[y0,y1] t (0,0))):w.cell? ⟨b,0,none⟩=some y0∧w.cell? ⟨b,1,none⟩=some y1∧(∀j,w.frozen? ⟨b,j,none⟩=false):=bE h
theorem pB {B w:World}{D:PH}{l:List HP}{cv:Value}{c:List Bool}(x:PredE)(hc:RdP D 1 cv c.length (c.flatMap de))(hm:cu c=true)(hat:PredsAt D (.slice x.la x.ln x.lc) x.subs)(hn:x.p.nodes.length≤1000000)(h:Sat B D w l) :
  Calls Tryz.prog 33 #[.agg #[cv],.agg x.cells.toArray] w fun e w'=>e = .returned (.int .i64 (if cB c x.p then 0 else 30))∧Sat B D w' l:=by
 obtain⟨rr,hrr⟩:∃rr:Int,rr=(if cB c x.p then 0 else 30):=⟨_,rfl⟩
 rw [←hrr]
 have HRR:=CM hrr
 clear hrr
 obtain⟨W1,hW1,hs1⟩:=eT h #[cv] x.cells.toArray aX tPr
 have ul:=CM hW1
 have uk:=CM hs1
 have HL:=CM (dp (aA (hs1.blk 1 rfl)))
 have zt:=CM (fp (hc.rd hs1))
 rw [show chk c=0 by unfold chk;rw [hm];rfl]at zt
 obtain⟨t0,tf⟩:=aq (hs1.blk 0 rfl)
 obtain⟨_,_,ca,cc,rfl,_⟩:=id hc
 have HC:=CM hc
 have yL:=CM hat
 have we:=CM hn
 clear h hs1 hW1 hc hat hn hm
 go_enter Tryz.func33,Tryz.ntmps33
 go_upto_region 1 with fail
 rw [←ul.out]
 clear ul
 generalize w.heap.size+1=b2 at *
 generalize w.heap.size=b1 at *
 go_upto_region 4 with (go_at_call 31;refine zt.out.mono ?_;rintro e1 w1 ⟨rfl,hk1⟩;have ur:=CM (uk.out.kept hk1);clear hk1 zt uk HL t0 tf)
 obtain⟨t0,tf⟩:=aq (ur.out.blk 0 rfl)
 have ut:=CM (ur.out.alloc #[.slice ca c.length cc,.bool false] tCk)
 go_upto_region 6 with fail
 obtain⟨W4,hW4,hs4⟩:=Sat.hide ut.out
 rw [←hW4]
 clear hW4 ut ur t0 tf
 generalize w1.heap.size=ck at hs4 ⊢
 have HL:=CM (dp (aA (hs4.blk 2 rfl)))
 have zr:=CM (qq (fun b:Bool=>blk ck #[.slice ca c.length cc,.bool b] tCk) (fun b p=>b || !ar c p) (F:=46) (first:=#[.pointer (some ⟨ck,0,none⟩)]) (caps:=#[]) (enters_of Tryz.func46 (by kernel_rfl) rfl) (fun y s W X hy hX=>part_ok y hy (fun W2 k=>HC.out.rd (hX.kept k)) hX) x.p x false W4 _ rfl yL.out hs4)
 have Cz:=CM (qG c x.p.nodes false)
 clear hs4
 go_upto_region 7 with (first|(refine bG rfl _ _ rfl _ _ rfl _ HL.out ?_)|(go_at_call 47;refine zr.out.mono ?_;rintro e5 w5 ⟨rfl,hs5⟩;have uA:=CM hs5;clear hs5 zr HL))
 rw [Cz.out]at uA
 obtain⟨k0,k1,kf⟩:=cells2v (uA.out.blk 0 rfl)
 have HL:=CM (dp (aA (uA.out.blk 2 rfl)))
 have uH:=CM (nM x yL.out we.out uA.out)
 cases ha:x.p.nodes.all (ar c)
 ·have HO:=CM (show(if cB c x.p then (0:Int)else 30)=30 by unfold cB;rw [ha];rfl)
  rw [ha,show(false || !false)=true from rfl]at k1
  clear ha
  go_wp2_with fail
  go_ret
  exact⟨by rw [HRR.out,HO.out];rfl,uA.out.drop.drop.drop⟩
 ·rw [ha,show(false || !true)=false from rfl]at k1
  obtain⟨N,hN⟩:∃N,x.p.nodes.length=N:=⟨_,rfl⟩
  rw [hN]at uH
  by_cases h15:N≤15
  ·have HO:=CM (show(if cB c x.p then (0:Int)else 30)=0 by unfold cB;rw [ha,hN,decide_eq_true h15];rfl)
   have h1:¬(N:Int) > 15:=by omega
   clear ha hN
   go_wp2_with (first|(refine fU rfl _ _ rfl _ _ rfl _ HL.out ?_)|(go_at_call 36;refine uH.out.mono ?_;rintro e6 w6 ⟨rfl,hs6⟩;have uu:=CM hs6;clear hs6 uH HL k0 k1 kf))
   go_ret
   exact⟨by rw [HRR.out,HO.out];rfl,uu.out.drop.drop.drop⟩
  ·have HO:=CM (show(if cB c x.p then (0:Int)else 30)=30 by unfold cB;rw [ha,hN,decide_eq_false h15];rfl)
   have h1:(N:Int) > 15:=by omega
   clear ha hN
   go_wp2_with (first|(refine fU rfl _ _ rfl _ _ rfl _ HL.out ?_)|(go_at_call 36;refine uH.out.mono ?_;rintro e6 w6 ⟨rfl,hs6⟩;have uu:=CM hs6;clear hs6 uH HL k0 k1 kf))
   go_ret
   exact⟨by rw [HRR.out,HO.out];rfl,uu.out.drop.drop.drop⟩
end Go.Proofs.YtdobimafhbfkhaaGreat
