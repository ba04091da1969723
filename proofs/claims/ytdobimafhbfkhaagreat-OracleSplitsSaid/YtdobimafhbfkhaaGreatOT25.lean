/- Joined texts: The tree: contract of Get. The tree: a tree that is none; Delete, by what remove does. The tree: Delete, where a key is taken away (printed by gendel.py). -/
import Derived.Test.YtdobimafhbfkhaaGreatOT24
set_option maxHeartbeats 64000000
namespace Go.Proofs.YtdobimafhbfkhaaGreat
open Go.ChangeShapes Go.WideShapes Go.ChangeAt Go.RowKit
set_option maxRecDepth 100000
set_option linter.unusedSimpArgs false
theorem TM.Leads.end_ {T:TM}{k:Val}{n i j:Nat}(h:T.Leads k n i j):∃m,T.nodes[j]?=some m∧m.leaf=true:=by
 induction h with
 | leaf hi hl=>exact⟨_,hi,hl⟩
 | inner _ _ _ _ _ ih=>exact ih
def NilT (w:World)(p:Value):Prop:=p = .pointer none∨∃t r,p = .pointer (some ⟨t,0,none⟩)∧w.cell? ⟨t,2,none⟩=some (.int .i64 r)∧r<0
theorem NilT.kept {w w':World}{p:Value}(h:NilT w p)(k:Kept (fun _=>False) w w'):NilT w' p:=h.imp (fun h=>h) (fun ⟨t,r,h1,h2,h3⟩=>⟨t,r,h1,k.cell' h2 (fun h=>h),h3⟩)
theorem rE {w:World}{k:Val}{p:Value}(hp:NilT w p) :
  Calls Tryz.prog 111 #[p,k.v] w fun e w'=>e = .returned (.pointer none)∧Kept (fun _=>False) w w':=by
 have hk1:Kept (fun _=>False) w (w.alloc (.cells #[.bool k.t,.int .i64 k.n,.string k.s] tV)):=(Kept.refl _ _).alloc _
 have uq:=CM hk1
 dsimp only [Val.v]
 rcases hp with rfl|⟨t,r,rfl,hc,hr⟩
 ·clear hk1
  go_enter Tryz.func111,Tryz.ntmps111
  go_wp2_with (fail)
  go_ret
  exact⟨rfl,uq.out⟩
 ·have hc2:=hk1.cell' hc (fun h=>h)
  clear hk1 hc
  go_enter Tryz.func111,Tryz.ntmps111
  go_wp2_with (fail)
  go_ret
  exact⟨rfl,uq.out⟩
theorem sM {w:World}{k:Val}{p:Value}(hp:NilT w p) :
  Calls Tryz.prog 93 #[p,k.v] w fun e w'=>e = .returned (.tuple #[RowT.none.v,.bool false])∧Kept (fun _=>False) w w':=by
 have hk1:Kept (fun _=>False) w (w.alloc (.cells #[.bool k.t,.int .i64 k.n,.string k.s] tV)):=(Kept.refl _ _).alloc _
 have hb1:(w.alloc (.cells #[.bool k.t,.int .i64 k.n,.string k.s] tV)).heap[w.heap.size]?=some (.cells #[.bool k.t,.int .i64 k.n,.string k.s] tV (0,0)):=aw w _
 have HP:=CM (hp.kept hk1)
 have uq:=CM hk1
 have um:=CM hb1
 clear hk1 hb1 hp
 dsimp only [Val.v]
 go_enter Tryz.func93,Tryz.ntmps93
 go_upto_region 2 with (fail)
 obtain⟨W,hW⟩:∃W,W=w.alloc (.cells #[.bool k.t,.int .i64 k.n,.string k.s] tV):=⟨_,rfl⟩
 rw [←hW]at uq um HP ⊢
 generalize w.heap.size=bk at um ⊢
 obtain⟨x0,x1,x2,xf⟩:=aT um.out
 clear hW
 go_wp2_with ((go_at_call 111;refine(rE HP.out).mono ?_;rintro e1 w1 ⟨rfl,hk2⟩;have ux:=CM (uq.out.trans hk2 (fun _ h=>h.elim));clear hk2 x0 x1 x2 xf))
 go_ret2
 exact⟨rfl,ux.out⟩
def NodeM.get (m:NodeM)(k:Val):VT:=if am k&&dI m.keys k then m.vals.getD (bq m.keys k) RowT.none else RowT.none
def NodeM.has (m:NodeM)(k:Val):Bool:=am k&&dI m.keys k
theorem Get_at {B w:World}{D:PH}{t n r j:Nat}{T:TM}{l:List HP}{k:Val}{m:NodeM}(hroot:T.k.root=(r:Int))(hld:T.Leads k n r j)(hj:T.nodes[j]?=some m)(hkb:m.keys.length≤1000)(hv:m.vals.length=m.keys.length)
  (h:TreeA B D w t T l) :
  Calls Tryz.prog 93 #[.pointer (some ⟨t,0,none⟩),k.v] w fun e w'=>e = .returned (.tuple #[(m.get k).v,.bool (m.has k)])∧Kept (fun _=>False) w w':=by
 obtain⟨nv,fv,ns,hns,hs⟩:=h
 obtain⟨⟨kv,vv,dv⟩,hp⟩:=aH hns hj
 have hlt:=(List.getElem?_eq_some_iff.1 hp).1
 obtain⟨g,c,rfl,_,hcm⟩:=hs.nv_some (by omega)
 unfold maxLen at hcm
 have hk1:Kept (fun _=>False) w (w.alloc (.cells #[.bool k.t,.int .i64 k.n,.string k.s] tV)):=(Kept.refl _ _).alloc _
 have hb1:(w.alloc (.cells #[.bool k.t,.int .i64 k.n,.string k.s] tV)).heap[w.heap.size]?=some (.cells #[.bool k.t,.int .i64 k.n,.string k.s] tV (0,0)):=aw w _
 have hib:(j:Int)<(ns.length:Int):=by omega
 obtain⟨ko,kc,hkv⟩:=(hs.focus hp).own_shape
 obtain⟨vo,vc,hvv⟩:=(hs.focus hp).drop.own_shape
 dsimp only at hkv hvv
 rw [hv]at hvv
 subst hkv hvv
 have HS:=CM (hs.kept hk1)
 have uq:=CM hk1
 have um:=CM hb1
 have uL:=CM hns
 have vJ:=CM hld
 have uY:=CM hroot
 have HP:=CM hp
 have HV:=CM hv
 have hkb2:m.keys.length≤1000000:=by omega
 clear hs hk1 hb1 hns hld hroot hp hj hv
 dsimp only [Val.v]
 go_enter Tryz.func93,Tryz.ntmps93
 go_upto_region 2 with (fail)
 obtain⟨W,hW⟩:∃W,W=w.alloc (.cells #[.bool k.t,.int .i64 k.n,.string k.s] tV):=⟨_,rfl⟩
 rw [←hW]at uq um HS ⊢
 generalize w.heap.size=bk at um ⊢
 obtain⟨x0,x1,x2,xf⟩:=aT um.out
 clear hW
 go_upto_region 3 with ((go_at_call 111;refine(leaf_ok uL.out uY.out vJ.out HS.out).mono ?_;rintro e1 w1 ⟨rfl,hk2⟩;have ux:=CM hk2;clear hk2 x0 x1 x2 xf))
 have vI:=CM (uq.out.trans ux.out (fun _ h=>h.elim))
 obtain⟨x0,x1,x2,xf⟩:=aT ((ux.out.block _ (ax um.out) (fun h=>h)).trans um.out)
 cases hr:am k
 ·have HR:=CM hr
  have HG:=CM (show m.get k=RowT.none∧m.has k=false by unfold NodeM.get NodeM.has;rw [hr];exact⟨rfl,rfl⟩)
  clear hr
  go_wp2_with ((go_at_call 32;refine(aK k _).mono ?_;rw [HR.out];rintro e2 w2 ⟨rfl,hk3⟩;have HK4:=CM (vI.out.trans hk3 (fun _ h=>h.elim));clear hk3))
  go_ret2
  exact⟨by rw [HG.out.1,HG.out.2];rfl,HK4.out⟩
 ·have HR:=CM hr
  clear hr
  go_upto_region 5 with ((go_at_call 32;refine(aK k _).mono ?_;rw [HR.out];rintro e2 w2 ⟨rfl,hk3⟩;have HK4:=CM (ux.out.trans hk3 (fun _ h=>h.elim));clear hk3 x0 x1 x2 xf))
  have hs4:=HS.out.kept HK4.out
  obtain⟨x0,x1,x2,xf⟩:=aT ((HK4.out.block _ (ax um.out) (fun h=>h)).trans um.out)
  obtain⟨n0,n1,n2,n3,nf⟩:=hs4.node_cells HP.out
  dsimp only at n0 n1 n2 n3
  have hrd:=hs4.drew.keys_rd HP.out
  dsimp only at hrd
  have uw:=CM hrd
  have uy:=CM hs4
  clear hrd hs4
  refine af [(0,false,5),(1,false,5),(2,false,5),(3,false,5),(4,false,5),(5,true,0),(6,false,999),(7,false,999),(8,false,999),(9,false,999),(10,false,999)] (by kernel_rfl) (by kernel_rfl) ?_
  iterate 5 (refine ae rfl rfl (fun K hK=>?_);go_simp;refine hK _ ?_;clear hK K)
  refine ag rfl ?_
  refine au rfl (fun K hK=>?_)
  go_simp
  refine(eG k uw.out hkb2).mono ?_
  rintro e5 w5 ⟨rfl,hk5⟩
  have hk5':Kept (fun _=>False) w2 w5:=((Kept.refl _ _).drew).trans hk5 (fun _ h=>h.elim)
  have hs5:=uy.out.kept hk5'
  have AO:=CM ((uq.out.trans HK4.out (fun _ h=>h.elim)).trans hk5' (fun _ h=>h.elim))
  clear x0 x1 x2 xf n0 n1 n2 n3 nf uw hk5 hk5'
  obtain⟨n0,n1,n2,n3,nf⟩:=hs5.node_cells HP.out
  dsimp only at n0 n1 n2 n3
  have Be:=CM (hs5.vals_rd HP.out)
  clear hs5
  refine hK _ _ ?_
  clear hK K
  refine wpList_nil ?_
  refine And.intro ?_ ?_
  ·go_simp
  iterate 5 (refine ae rfl rfl (fun K hK=>?_);go_simp;refine hK _ ?_;clear hK K)
  refine ah ?_
  cases his:dI m.keys k
  ·have HG:=CM (show m.get k=RowT.none∧m.has k=false by unfold NodeM.get NodeM.has;rw [his,Bool.and_false];exact⟨rfl,rfl⟩)
   clear his
   go_wp2_with (fail)
   go_ret2
   exact⟨by rw [HG.out.1,HG.out.2];rfl,AO.out⟩
  ·have hbl:=jZ his
   obtain⟨v,hvx⟩:∃v,m.vals[bq m.keys k]?=some v:=⟨m.vals[bq m.keys k]'(by rw [HV.out];exact hbl),List.getElem?_eq_getElem _⟩
   have hvr:=Be.out
   dsimp only at hvr
   rw [HV.out]at hvr
   obtain⟨vg,vo2,rfl,hvc⟩:∃vg vo2,vo=some ⟨vg,vo2,none⟩∧w5.cell? ⟨vg,vo2+bq m.keys k,none⟩=some v.v:=by
    obtain⟨_,_,hvq,_,_,_,hc⟩:=hvr.2.2
    cases hvq
    rcases hc with h0|⟨vg,vo2,hg,hc⟩
    ·omega
    ·have:=hc _ _ (bH jT m.vals _ v hvx 0 _ rfl)
     exact⟨vg,vo2,hg,by simpa using this⟩
   have hab:(bq m.keys k:Int)<(m.keys.length:Int):=by omega
   have HG:=CM (show m.get k=v∧m.has k=true by unfold NodeM.get NodeM.has;rw [HR.out,his,Bool.and_true,if_pos rfl,List.getD_eq_getElem?_getD,hvx];exact⟨rfl,rfl⟩)
   clear his hvx hvr
   go_wp2_with (fail)
   go_ret2
   exact⟨by rw [HG.out.1,HG.out.2];rfl,AO.out⟩
attribute [local go_sem] Oper.semAt_some
theorem qL (n:Int)(s:ByteArray):am ⟨false,n,s⟩=s.toList.isEmpty:=by
 unfold am
 simp only [Bool.false_eq_true,if_false]
 by_cases h:s=⟨#[]⟩
 ·subst h
  rw [ByteArray.toList_eq]
  rfl
 ·rw [decide_eq_false h,ByteArray.toList_eq]
  cases he:s.data.toList.isEmpty with
  | false=>rfl
  | true =>
   exfalso
   apply h
   obtain⟨⟨x⟩⟩:=s
   cases x with
   | nil=>rfl
   | cons a b=>simp at he
theorem gW (v:Val)(w:World):Calls Tryz.prog 26 #[v.v] w fun e w'=>e = .returned (.bool (am v))∧Kept (fun _=>False) w w':=by
 obtain⟨t,n,s⟩:=v
 have hk:Kept (fun _=>False) w (w.alloc (.cells #[.bool t,.int .i64 n,.string s] 24)):=(Kept.refl _ _).alloc _
 have HK:=CM hk
 clear hk
 cases t
 ·have E:=CM (qL n s)
  go_enter Tryz.func26,Tryz.ntmps26
  go_wp2_with fail
  go_ret
  exact⟨by rw [E.out];rfl,HK.out⟩
 ·by_cases h:n=0
  ·subst h
   by_cases hs:(s.size:Int)≤12
   ·have E:=CM (show am ⟨true,0,s⟩=true by simp [am];omega)
    go_enter Tryz.func26,Tryz.ntmps26
    go_wp2_with fail
    go_ret
    exact⟨by rw [E.out];rfl,HK.out⟩
   ·have E:=CM (show am ⟨true,0,s⟩=false by simp [am];omega)
    go_enter Tryz.func26,Tryz.ntmps26
    go_wp2_with fail
    go_ret
    exact⟨by rw [E.out];rfl,HK.out⟩
  ·have hb:(n == 0)=false:=by simpa using h
   have E:=CM (show am ⟨true,n,s⟩=false by simp [am,h])
   go_enter Tryz.func26,Tryz.ntmps26
   go_wp2_with fail
   go_ret
   exact⟨by rw [E.out];rfl,HK.out⟩
theorem oK {w:World}{k:Val}{p:Value}(hp:NilT w p) :
  Calls Tryz.prog 91 #[p,k.v] w fun e w'=>e = .returned (.bool false)∧Kept (fun _=>False) w w':=by
 have hk1:Kept (fun _=>False) w (w.alloc (.cells #[.bool k.t,.int .i64 k.n,.string k.s] tV)):=(Kept.refl _ _).alloc _
 have hp1:=hp.kept hk1
 have uq:=CM hk1
 clear hk1 hp
 dsimp only [Val.v]
 rcases hp1 with rfl|⟨t,r,rfl,hc,hr⟩
 all_goals
  go_enter Tryz.func91,Tryz.ntmps91
  go_upto_region 1 with (fail)
  refine af [(0,false,11),(1,false,11),(2,false,11),(3,false,11),(4,false,11),(5,false,11),(6,false,11),(7,false,11),(8,false,11),(9,false,11),(10,false,11),(11,true,0),(12,false,21),(13,false,21),(14,false,21),(15,false,21),(16,false,21),(17,false,21),(18,false,21),(19,false,21),(20,false,21),(21,true,0),(22,false,999),(23,false,999)] (by kernel_rfl) (by kernel_rfl) ?_
  iterate 3 (refine ae rfl rfl (fun K hK=>?_);go_simp;refine hK _ ?_;clear hK K)
  iterate 5 (first|(refine al rfl rfl ?_;simp only [Act.put,CO,CP,CQ,CR,CT,CU])|(refine ai rfl rfl (fun K hK=>?_);go_simp;refine hK _ ?_;clear hK K))
  iterate 2 (refine ae rfl rfl (fun K hK=>?_);go_simp;refine hK _ ?_;clear hK K)
  first|(refine al rfl rfl ?_;simp only [Act.put,CO,CP,CQ,CR,CT,CU])|(refine ai rfl rfl (fun K hK=>?_);go_simp;refine hK _ ?_;clear hK K)
  refine ag rfl ?_
  refine bW rfl ?_
  simp only [Act.put,CO,CP,CQ]
  refine wpList_nil ?_
  refine And.intro ?_ ?_
  ·go_simp
  first|(refine al rfl rfl ?_;simp only [Act.put,CO,CP,CQ,CR,CT,CU])|(refine ai rfl rfl (fun K hK=>?_);go_simp;refine hK _ ?_;clear hK K)
  iterate 2 (refine ae rfl rfl (fun K hK=>?_);go_simp;refine hK _ ?_;clear hK K)
  iterate 6 (first|(refine al rfl rfl ?_;simp only [Act.put,CO,CP,CQ,CR,CT,CU])|(refine ai rfl rfl (fun K hK=>?_);go_simp;refine hK _ ?_;clear hK K))
  refine ag rfl ?_
  refine bW rfl ?_
  simp only [Act.put,CO,CP,CQ]
  refine wpList_nil ?_
  refine And.intro ?_ ?_
  ·go_simp
  first|(refine al rfl rfl ?_;simp only [Act.put,CO,CP,CQ,CR,CT,CU])|(refine ai rfl rfl (fun K hK=>?_);go_simp;refine hK _ ?_;clear hK K)
  refine ae rfl rfl (fun K hK=>?_);go_simp;refine hK _ ?_;clear hK K
  refine ah ?_
  go_wp2_with fail
  go_ret
  exact⟨rfl,uq.out.drew⟩
def TM.less (T:TM):TM:={ T with k:={ T.k with many:=T.k.many-1 } }
def TM.drop1 (T:TM)(root:Int)(top:Nat):TM:={ (T.give top)with k:={ root:=root,many:=T.k.many-1,depth:=T.k.depth-1 } }
theorem lZ {B w:World}{D:PH}{t r:Nat}{T:TM}{l:List HP}{k:Val}(hr:am k=false∨(am k=true∧∀(w:World) (l:List HP),TreeA B D w t T l→Calls Tryz.prog 105 #[.pointer (some ⟨t,0,none⟩),.int .i64 r,k.v] w fun e w'=>e = .returned (.bool false)∧TreeA B D w' t T l))
  (hroot:T.k.root=(r:Int)) (h:TreeA B D w t T l) :
  Calls Tryz.prog 91 #[.pointer (some ⟨t,0,none⟩),k.v] w fun e w'=>e = .returned (.bool false)∧TreeA B D w' t T l:=by
 obtain⟨nv,fv,ns,hns,hs⟩:=h
 have uk:=CM (hs.alloc #[.bool k.t,.int .i64 k.n,.string k.s] tV)
 have uL:=CM hns
 have uY:=CM hroot
 have hr0:¬((r:Int)<0):=by omega
 clear hs hns hroot
 dsimp only [Val.v]
 rcases hr with hr|⟨hr,hrem⟩
 all_goals
  have HR:=CM hr
  clear hr
  go_enter Tryz.func91,Tryz.ntmps91
  go_upto_region 1 with (fail)
  obtain⟨W,hW,hs2⟩:=uk.out.hide
  rw [←hW]
  clear uk hW
  generalize w.heap.size=bk at hs2 ⊢
  obtain⟨t0,t1,t2,t3,t4,tf⟩:=hs2.tcells
  obtain⟨x0,x1,x2,xf⟩:=aT (Sat.blk hs2 4 rfl)
  rw [uY.out]at t2
  have ur:=CM hs2
  clear hs2
 ·refine af [(0,false,11),(1,false,11),(2,false,11),(3,false,11),(4,false,11),(5,false,11),(6,false,11),(7,false,11),(8,false,11),(9,false,11),(10,false,11),(11,true,0),(12,false,21),(13,false,21),(14,false,21),(15,false,21),(16,false,21),(17,false,21),(18,false,21),(19,false,21),(20,false,21),(21,true,0),(22,false,999),(23,false,999)] (by kernel_rfl) (by kernel_rfl) ?_
  iterate 3 (refine ae rfl rfl (fun K hK=>?_);go_simp;refine hK _ ?_;clear hK K)
  iterate 5 (first|(refine al rfl rfl ?_;simp only [Act.put,CO,CP,CQ,CR,CT,CU])|(refine ai rfl rfl (fun K hK=>?_);go_simp;refine hK _ ?_;clear hK K))
  iterate 2 (refine ae rfl rfl (fun K hK=>?_);go_simp;refine hK _ ?_;clear hK K)
  first|(refine al rfl rfl ?_;simp only [Act.put,CO,CP,CQ,CR,CT,CU])|(refine ai rfl rfl (fun K hK=>?_);go_simp;refine hK _ ?_;clear hK K)
  refine ag rfl ?_
  refine au rfl (fun K hK=>?_)
  go_simp
  refine(aK k _).mono ?_
  rw [HR.out]
  rintro e1 w1 ⟨rfl,hk1⟩
  have ut:=CM ((ur.out.drew).kept hk1)
  clear hk1 ur x0 x1 x2 xf t0 t1 t2 t3 t4 tf
  obtain⟨t0,t1,t2,t3,t4,tf⟩:=ut.out.tcells
  obtain⟨x0,x1,x2,xf⟩:=aT (Sat.blk ut.out 4 rfl)
  rw [uY.out]at t2
  refine hK _ _ ?_
  clear hK K
  refine wpList_nil ?_
  refine And.intro ?_ ?_
  ·go_simp
  first|(refine al rfl rfl ?_;simp only [Act.put,CO,CP,CQ,CR,CT,CU])|(refine ai rfl rfl (fun K hK=>?_);go_simp;refine hK _ ?_;clear hK K)
  iterate 2 (refine ae rfl rfl (fun K hK=>?_);go_simp;refine hK _ ?_;clear hK K)
  iterate 6 (first|(refine al rfl rfl ?_;simp only [Act.put,CO,CP,CQ,CR,CT,CU])|(refine ai rfl rfl (fun K hK=>?_);go_simp;refine hK _ ?_;clear hK K))
  refine ag rfl ?_
  refine bW rfl ?_
  simp only [Act.put,CO,CP,CQ]
  refine wpList_nil ?_
  refine And.intro ?_ ?_
  ·go_simp
  first|(refine al rfl rfl ?_;simp only [Act.put,CO,CP,CQ,CR,CT,CU])|(refine ai rfl rfl (fun K hK=>?_);go_simp;refine hK _ ?_;clear hK K)
  refine ae rfl rfl (fun K hK=>?_);go_simp;refine hK _ ?_;clear hK K
  refine ah ?_
  go_wp2_with fail
  go_ret
  exact⟨rfl,_,_,_,uL.out,ut.out.drop⟩
 ·have wY:=CM hrem
  clear hrem
  refine af [(0,false,11),(1,false,11),(2,false,11),(3,false,11),(4,false,11),(5,false,11),(6,false,11),(7,false,11),(8,false,11),(9,false,11),(10,false,11),(11,true,0),(12,false,21),(13,false,21),(14,false,21),(15,false,21),(16,false,21),(17,false,21),(18,false,21),(19,false,21),(20,false,21),(21,true,0),(22,false,999),(23,false,999)] (by kernel_rfl) (by kernel_rfl) ?_
  iterate 3 (refine ae rfl rfl (fun K hK=>?_);go_simp;refine hK _ ?_;clear hK K)
  iterate 5 (first|(refine al rfl rfl ?_;simp only [Act.put,CO,CP,CQ,CR,CT,CU])|(refine ai rfl rfl (fun K hK=>?_);go_simp;refine hK _ ?_;clear hK K))
  iterate 2 (refine ae rfl rfl (fun K hK=>?_);go_simp;refine hK _ ?_;clear hK K)
  first|(refine al rfl rfl ?_;simp only [Act.put,CO,CP,CQ,CR,CT,CU])|(refine ai rfl rfl (fun K hK=>?_);go_simp;refine hK _ ?_;clear hK K)
  refine ag rfl ?_
  refine au rfl (fun K hK=>?_)
  go_simp
  refine(aK k _).mono ?_
  rw [HR.out]
  rintro e1 w1 ⟨rfl,hk1⟩
  have ut:=CM ((ur.out.drew).kept hk1)
  clear hk1 ur x0 x1 x2 xf t0 t1 t2 t3 t4 tf
  obtain⟨t0,t1,t2,t3,t4,tf⟩:=ut.out.tcells
  obtain⟨x0,x1,x2,xf⟩:=aT (Sat.blk ut.out 4 rfl)
  rw [uY.out]at t2
  have zi:=CM (wY.out w1 _ ⟨_,_,_,uL.out,ut.out⟩)
  refine hK _ _ ?_
  clear hK K
  refine wpList_nil ?_
  refine And.intro ?_ ?_
  ·go_simp
  first|(refine al rfl rfl ?_;simp only [Act.put,CO,CP,CQ,CR,CT,CU])|(refine ai rfl rfl (fun K hK=>?_);go_simp;refine hK _ ?_;clear hK K)
  iterate 2 (refine ae rfl rfl (fun K hK=>?_);go_simp;refine hK _ ?_;clear hK K)
  iterate 6 (first|(refine al rfl rfl ?_;simp only [Act.put,CO,CP,CQ,CR,CT,CU])|(refine ai rfl rfl (fun K hK=>?_);go_simp;refine hK _ ?_;clear hK K))
  refine ag rfl ?_
  refine au rfl (fun K hK=>?_)
  go_simp
  refine zi.out.mono ?_
  rintro e2 w2 ⟨rfl,nv2,fv2,ns2,hns2,hs2⟩
  have uy:=CM hs2
  have vR:=CM hns2
  clear hns2 x0 x1 x2 xf t0 t1 t2 t3 t4 tf
  obtain⟨t0,t1,t2,t3,t4,tf⟩:=hs2.tcells
  obtain⟨x0,x1,x2,xf⟩:=aT (Sat.blk hs2 4 rfl)
  rw [uY.out]at t2
  clear hs2
  refine hK _ _ ?_
  clear hK K
  refine wpList_nil ?_
  refine And.intro ?_ ?_
  ·go_simp
  first|(refine al rfl rfl ?_;simp only [Act.put,CO,CP,CQ,CR,CT,CU])|(refine ai rfl rfl (fun K hK=>?_);go_simp;refine hK _ ?_;clear hK K)
  refine ae rfl rfl (fun K hK=>?_);go_simp;refine hK _ ?_;clear hK K
  refine ah ?_
  go_wp2_with fail
  go_ret
  exact⟨rfl,_,_,_,vR.out,uy.out.drop⟩
theorem od {B w:World}{D:PH}{t r:Nat}{T T1:TM}{l:List HP}{k:Val}{m:NodeM}(hr:am k=true)(hrem:∀(w:World) (l:List HP),TreeA B D w t T l→Calls Tryz.prog 105 #[.pointer (some ⟨t,0,none⟩),.int .i64 r,k.v] w fun e w'=>e = .returned (.bool true)∧TreeA B D w' t T1 l)
  (hroot:T.k.root=(r:Int)) (hk1:T1.k=T.k) (hfit:T.k.fit) (hm:T1.nodes[r]?=some m) (hbig:T1.nodes.length≤1000000) (hfb:T1.free.length≤1000000) (hl:m.leaf=true) (hz:T.k.many=1) (h:TreeA B D w t T l) :
  Calls Tryz.prog 91 #[.pointer (some ⟨t,0,none⟩),k.v] w fun e w'=>e = .returned (.bool true)∧TreeA B D w' t (T1.drop1 (-1) r) l:=by
 obtain⟨nv,fv,ns,hns,hs⟩:=h
 obtain⟨f1,f2,f3,f4⟩:=hfit
 have uk:=CM (hs.alloc #[.bool k.t,.int .i64 k.n,.string k.s] tV)
 have uL:=CM hns
 have uY:=CM hroot
 have HR:=CM hr
 have wY:=CM hrem
 have HM:=CM hm
 have uq:=CM hk1
 have xt:=CM (And.intro hbig hfb)
 have hr0:¬((r:Int)<0):=by omega
 have hw1:IntKind.i64.wrap (T.k.many-1)=T.k.many-1:=bV _ (by omega) (by omega)
 have hw2:IntKind.i64.wrap (T.k.depth-1)=T.k.depth-1:=bV _ (by omega) (by omega)
 have ul:=CM hw1
 have yj:=CM hw2
 have HL:=CM hl
 have HZ:=CM hz
 clear hl hz
 clear hs hns hroot hr hrem hm hk1 hw1 hw2
 dsimp only [Val.v]
 go_enter Tryz.func91,Tryz.ntmps91
 go_upto_region 1 with (fail)
 obtain⟨W,hW,hs2⟩:=uk.out.hide
 rw [←hW]
 clear uk hW
 generalize w.heap.size=bk at hs2 ⊢
 obtain⟨t0,t1,t2,t3,t4,tf⟩:=hs2.tcells
 obtain⟨x0,x1,x2,xf⟩:=aT (Sat.blk hs2 4 rfl)
 rw [uY.out]at t2
 have ur:=CM hs2
 clear hs2
 refine af [(0,false,11),(1,false,11),(2,false,11),(3,false,11),(4,false,11),(5,false,11),(6,false,11),(7,false,11),(8,false,11),(9,false,11),(10,false,11),(11,true,0),(12,false,21),(13,false,21),(14,false,21),(15,false,21),(16,false,21),(17,false,21),(18,false,21),(19,false,21),(20,false,21),(21,true,0),(22,false,999),(23,false,999)] (by kernel_rfl) (by kernel_rfl) ?_
 iterate 3 (refine ae rfl rfl (fun K hK=>?_);go_simp;refine hK _ ?_;clear hK K)
 iterate 5 (first|(refine al rfl rfl ?_;simp only [Act.put,CO,CP,CQ,CR,CT,CU])|(refine ai rfl rfl (fun K hK=>?_);go_simp;refine hK _ ?_;clear hK K))
 iterate 2 (refine ae rfl rfl (fun K hK=>?_);go_simp;refine hK _ ?_;clear hK K)
 first|(refine al rfl rfl ?_;simp only [Act.put,CO,CP,CQ,CR,CT,CU])|(refine ai rfl rfl (fun K hK=>?_);go_simp;refine hK _ ?_;clear hK K)
 refine ag rfl ?_
 refine au rfl (fun K hK=>?_)
 go_simp
 refine(aK k _).mono ?_
 rw [HR.out]
 rintro e1 w1 ⟨rfl,hk1⟩
 have ut:=CM ((ur.out.drew).kept hk1)
 clear hk1 ur x0 x1 x2 xf t0 t1 t2 t3 t4 tf
 obtain⟨t0,t1,t2,t3,t4,tf⟩:=ut.out.tcells
 obtain⟨x0,x1,x2,xf⟩:=aT (Sat.blk ut.out 4 rfl)
 rw [uY.out]at t2
 have zi:=CM (wY.out w1 _ ⟨_,_,_,uL.out,ut.out⟩)
 refine hK _ _ ?_
 clear hK K
 refine wpList_nil ?_
 refine And.intro ?_ ?_
 ·go_simp
 first|(refine al rfl rfl ?_;simp only [Act.put,CO,CP,CQ,CR,CT,CU])|(refine ai rfl rfl (fun K hK=>?_);go_simp;refine hK _ ?_;clear hK K)
 iterate 2 (refine ae rfl rfl (fun K hK=>?_);go_simp;refine hK _ ?_;clear hK K)
 iterate 6 (first|(refine al rfl rfl ?_;simp only [Act.put,CO,CP,CQ,CR,CT,CU])|(refine ai rfl rfl (fun K hK=>?_);go_simp;refine hK _ ?_;clear hK K))
 refine ag rfl ?_
 refine au rfl (fun K hK=>?_)
 go_simp
 refine zi.out.mono ?_
 rintro e2 w2 ⟨rfl,nv2,fv2,ns2,hns2,hs2⟩
 rw [uq.out]at hs2
 have uy:=CM hs2
 have vR:=CM hns2
 clear hns2 x0 x1 x2 xf t0 t1 t2 t3 t4 tf
 obtain⟨t0,t1,t2,t3,t4,tf⟩:=hs2.tcells
 obtain⟨x0,x1,x2,xf⟩:=aT (Sat.blk hs2 4 rfl)
 rw [uY.out]at t2
 clear hs2
 refine hK _ _ ?_
 clear hK K
 refine wpList_nil ?_
 refine And.intro ?_ ?_
 ·go_simp
 first|(refine al rfl rfl ?_;simp only [Act.put,CO,CP,CQ,CR,CT,CU])|(refine ai rfl rfl (fun K hK=>?_);go_simp;refine hK _ ?_;clear hK K)
 refine ae rfl rfl (fun K hK=>?_);go_simp;refine hK _ ?_;clear hK K
 refine ah ?_
 obtain⟨⟨kv,vv,dv⟩,hp⟩:=aH vR.out HM.out
 have hlt:=(List.getElem?_eq_some_iff.1 hp).1
 have hib:(r:Int)<(ns2.length:Int):=by omega
 have HP:=CM hp
 obtain⟨g,c,rfl,_,hcm⟩:=uy.out.nv_some (by omega)
 unfold maxLen at hcm
 clear hp
 have hw1:=ul.out
 go_upto_region 4 with (fail)
 obtain⟨W5,hW5,hs5⟩:=(uy.out.set_many (T.k.many-1)).hide
 rw [←hW5]
 clear hW5 uy t0 t1 t2 t3 t4 tf x0 x1 x2 xf hw1
 obtain⟨t0,t1,t2,t3,t4,tf⟩:=hs5.tcells
 obtain⟨n0,n1,n2,n3,nf⟩:=hs5.node_cells HP.out
 dsimp only at n0 n1 n2 n3 t2 t3 t4
 rw [uY.out]at t2
 rw [HL.out]at n0
 have hz0:T.k.many-1=0:=by have:=HZ.out;omega
 have uA:=CM hs5
 clear hs5
 go_upto_region 10 with (fail)
 obtain⟨W6,hW6,hs6⟩:=(uA.out.set_root (-1)).hide
 rw [←hW6]
 clear hW6 uA t0 t1 t2 t3 t4 tf n0 n1 n2 n3 nf
 have HG:=CM (j4 (B:=B) (D:=D) (t:=t) (T:={ T1 with k:={ root:=(-1),many:=T.k.many-1,depth:=T.k.depth } }) (i:=r) (List.getElem?_eq_some_iff.1 HM.out).1 xt.out.1 xt.out.2 ⟨_,_,_,vR.out,hs6⟩)
 clear hs6
 go_upto_region 11 with ((go_at_call 106;refine HG.out.mono ?_;rintro e7 w7 ⟨rfl,nv7,fv7,ns7,hns7,hs7⟩;obtain⟨t0,t1,t2,t3,t4,tf⟩:=hs7.tcells;have vb:=CM hs7;have xT:=CM hns7;clear hs7 hns7;dsimp only [TM.give]at t4))
 have hw2:=yj.out
 go_wp2_with (fail)
 go_ret
 refine⟨rfl,nv7,fv7,ns7,xT.out,?_⟩
 rw [show(T1.drop1 (-1) r).k=({ root := -1,many:=T.k.many-1,depth:=T.k.depth-1 }:Num) by unfold TM.drop1;rw [uq.out]]
 exact(vb.out.set_depth (T.k.depth-1)).drop
theorem pW {B w:World}{D:PH}{t r:Nat}{T T1:TM}{l:List HP}{k:Val}{m:NodeM}(hr:am k=true)(hrem:∀(w:World) (l:List HP),TreeA B D w t T l→Calls Tryz.prog 105 #[.pointer (some ⟨t,0,none⟩),.int .i64 r,k.v] w fun e w'=>e = .returned (.bool true)∧TreeA B D w' t T1 l)
  (hroot:T.k.root=(r:Int)) (hk1:T1.k=T.k) (hfit:T.k.fit) (hm:T1.nodes[r]?=some m) (hbig:T1.nodes.length≤1000000) (hfb:T1.free.length≤1000000) {c0:Nat} (hl:m.leaf=false) (hz:m.kids = [c0]) (h:TreeA B D w t T l) :
  Calls Tryz.prog 91 #[.pointer (some ⟨t,0,none⟩),k.v] w fun e w'=>e = .returned (.bool true)∧TreeA B D w' t (T1.drop1 (c0:Int) r) l:=by
 obtain⟨nv,fv,ns,hns,hs⟩:=h
 obtain⟨f1,f2,f3,f4⟩:=hfit
 have uk:=CM (hs.alloc #[.bool k.t,.int .i64 k.n,.string k.s] tV)
 have uL:=CM hns
 have uY:=CM hroot
 have HR:=CM hr
 have wY:=CM hrem
 have HM:=CM hm
 have uq:=CM hk1
 have xt:=CM (And.intro hbig hfb)
 have hr0:¬((r:Int)<0):=by omega
 have hw1:IntKind.i64.wrap (T.k.many-1)=T.k.many-1:=bV _ (by omega) (by omega)
 have hw2:IntKind.i64.wrap (T.k.depth-1)=T.k.depth-1:=bV _ (by omega) (by omega)
 have ul:=CM hw1
 have yj:=CM hw2
 have HL:=CM hl
 have HZ:=CM hz
 clear hl hz
 clear hs hns hroot hr hrem hm hk1 hw1 hw2
 dsimp only [Val.v]
 go_enter Tryz.func91,Tryz.ntmps91
 go_upto_region 1 with (fail)
 obtain⟨W,hW,hs2⟩:=uk.out.hide
 rw [←hW]
 clear uk hW
 generalize w.heap.size=bk at hs2 ⊢
 obtain⟨t0,t1,t2,t3,t4,tf⟩:=hs2.tcells
 obtain⟨x0,x1,x2,xf⟩:=aT (Sat.blk hs2 4 rfl)
 rw [uY.out]at t2
 have ur:=CM hs2
 clear hs2
 refine af [(0,false,11),(1,false,11),(2,false,11),(3,false,11),(4,false,11),(5,false,11),(6,false,11),(7,false,11),(8,false,11),(9,false,11),(10,false,11),(11,true,0),(12,false,21),(13,false,21),(14,false,21),(15,false,21),(16,false,21),(17,false,21),(18,false,21),(19,false,21),(20,false,21),(21,true,0),(22,false,999),(23,false,999)] (by kernel_rfl) (by kernel_rfl) ?_
 iterate 3 (refine ae rfl rfl (fun K hK=>?_);go_simp;refine hK _ ?_;clear hK K)
 iterate 5 (first|(refine al rfl rfl ?_;simp only [Act.put,CO,CP,CQ,CR,CT,CU])|(refine ai rfl rfl (fun K hK=>?_);go_simp;refine hK _ ?_;clear hK K))
 iterate 2 (refine ae rfl rfl (fun K hK=>?_);go_simp;refine hK _ ?_;clear hK K)
 first|(refine al rfl rfl ?_;simp only [Act.put,CO,CP,CQ,CR,CT,CU])|(refine ai rfl rfl (fun K hK=>?_);go_simp;refine hK _ ?_;clear hK K)
 refine ag rfl ?_
 refine au rfl (fun K hK=>?_)
 go_simp
 refine(aK k _).mono ?_
 rw [HR.out]
 rintro e1 w1 ⟨rfl,hk1⟩
 have ut:=CM ((ur.out.drew).kept hk1)
 clear hk1 ur x0 x1 x2 xf t0 t1 t2 t3 t4 tf
 obtain⟨t0,t1,t2,t3,t4,tf⟩:=ut.out.tcells
 obtain⟨x0,x1,x2,xf⟩:=aT (Sat.blk ut.out 4 rfl)
 rw [uY.out]at t2
 have zi:=CM (wY.out w1 _ ⟨_,_,_,uL.out,ut.out⟩)
 refine hK _ _ ?_
 clear hK K
 refine wpList_nil ?_
 refine And.intro ?_ ?_
 ·go_simp
 first|(refine al rfl rfl ?_;simp only [Act.put,CO,CP,CQ,CR,CT,CU])|(refine ai rfl rfl (fun K hK=>?_);go_simp;refine hK _ ?_;clear hK K)
 iterate 2 (refine ae rfl rfl (fun K hK=>?_);go_simp;refine hK _ ?_;clear hK K)
 iterate 6 (first|(refine al rfl rfl ?_;simp only [Act.put,CO,CP,CQ,CR,CT,CU])|(refine ai rfl rfl (fun K hK=>?_);go_simp;refine hK _ ?_;clear hK K))
 refine ag rfl ?_
 refine au rfl (fun K hK=>?_)
 go_simp
 refine zi.out.mono ?_
 rintro e2 w2 ⟨rfl,nv2,fv2,ns2,hns2,hs2⟩
 rw [uq.out]at hs2
 have uy:=CM hs2
 have vR:=CM hns2
 clear hns2 x0 x1 x2 xf t0 t1 t2 t3 t4 tf
 obtain⟨t0,t1,t2,t3,t4,tf⟩:=hs2.tcells
 obtain⟨x0,x1,x2,xf⟩:=aT (Sat.blk hs2 4 rfl)
 rw [uY.out]at t2
 clear hs2
 refine hK _ _ ?_
 clear hK K
 refine wpList_nil ?_
 refine And.intro ?_ ?_
 ·go_simp
 first|(refine al rfl rfl ?_;simp only [Act.put,CO,CP,CQ,CR,CT,CU])|(refine ai rfl rfl (fun K hK=>?_);go_simp;refine hK _ ?_;clear hK K)
 refine ae rfl rfl (fun K hK=>?_);go_simp;refine hK _ ?_;clear hK K
 refine ah ?_
 obtain⟨⟨kv,vv,dv⟩,hp⟩:=aH vR.out HM.out
 have hlt:=(List.getElem?_eq_some_iff.1 hp).1
 have hib:(r:Int)<(ns2.length:Int):=by omega
 have HP:=CM hp
 obtain⟨g,c,rfl,_,hcm⟩:=uy.out.nv_some (by omega)
 unfold maxLen at hcm
 clear hp
 have hw1:=ul.out
 go_upto_region 4 with (fail)
 obtain⟨W5,hW5,hs5⟩:=(uy.out.set_many (T.k.many-1)).hide
 rw [←hW5]
 clear hW5 uy t0 t1 t2 t3 t4 tf x0 x1 x2 xf hw1
 obtain⟨t0,t1,t2,t3,t4,tf⟩:=hs5.tcells
 obtain⟨n0,n1,n2,n3,nf⟩:=hs5.node_cells HP.out
 dsimp only at n0 n1 n2 n3 t2 t3 t4
 rw [uY.out]at t2
 rw [HL.out]at n0
 obtain⟨dg,dc,hdv,hdc1,hdc2⟩:=aE (Sat.own (hs5.focus HP.out) 2 rfl) (by show 0<m.kids.length;rw [HZ.out];simp)
 dsimp only at hdv
 rw [HZ.out]at hdv
 subst hdv
 have hkr:=hs5.kids_rd HP.out
 dsimp only at hkr
 have hcell:=bI (by rw [HZ.out]at hkr;rw [HZ.out];exact hkr) (show m.kids[0]?=some c0 by rw [HZ.out];rfl)
 clear hkr
 have uA:=CM hs5
 clear hs5
 go_upto_region 10 with (fail)
 obtain⟨W6,hW6,hs6⟩:=(uA.out.set_root (c0:Int)).hide
 rw [←hW6]
 clear hW6 uA t0 t1 t2 t3 t4 tf n0 n1 n2 n3 nf hcell
 have HG:=CM (j4 (B:=B) (D:=D) (t:=t) (T:={ T1 with k:={ root:=(c0:Int),many:=T.k.many-1,depth:=T.k.depth } }) (i:=r) (List.getElem?_eq_some_iff.1 HM.out).1 xt.out.1 xt.out.2 ⟨_,_,_,vR.out,hs6⟩)
 clear hs6
 go_upto_region 11 with ((go_at_call 106;refine HG.out.mono ?_;rintro e7 w7 ⟨rfl,nv7,fv7,ns7,hns7,hs7⟩;obtain⟨t0,t1,t2,t3,t4,tf⟩:=hs7.tcells;have vb:=CM hs7;have xT:=CM hns7;clear hs7 hns7;dsimp only [TM.give]at t4))
 have hw2:=yj.out
 go_wp2_with (fail)
 go_ret
 refine⟨rfl,nv7,fv7,ns7,xT.out,?_⟩
 rw [show(T1.drop1 (c0:Int) r).k=({ root:=(c0:Int),many:=T.k.many-1,depth:=T.k.depth-1 }:Num) by unfold TM.drop1;rw [uq.out]]
 exact(vb.out.set_depth (T.k.depth-1)).drop
theorem oh {B w:World}{D:PH}{t r:Nat}{T T1:TM}{l:List HP}{k:Val}{m:NodeM}(hr:am k=true)(hrem:∀(w:World) (l:List HP),TreeA B D w t T l→Calls Tryz.prog 105 #[.pointer (some ⟨t,0,none⟩),.int .i64 r,k.v] w fun e w'=>e = .returned (.bool true)∧TreeA B D w' t T1 l)
  (hroot:T.k.root=(r:Int)) (hk1:T1.k=T.k) (hfit:T.k.fit) (hm:T1.nodes[r]?=some m) (hbig:T1.nodes.length≤1000000) (hfb:T1.free.length≤1000000) (hz:(m.leaf=true∧T.k.many≠1)∨(m.leaf=false∧m.kids.length≠1)) (h:TreeA B D w t T l) :
  Calls Tryz.prog 91 #[.pointer (some ⟨t,0,none⟩),k.v] w fun e w'=>e = .returned (.bool true)∧TreeA B D w' t T1.less l:=by
 obtain⟨nv,fv,ns,hns,hs⟩:=h
 obtain⟨f1,f2,f3,f4⟩:=hfit
 have uk:=CM (hs.alloc #[.bool k.t,.int .i64 k.n,.string k.s] tV)
 have uL:=CM hns
 have uY:=CM hroot
 have HR:=CM hr
 have wY:=CM hrem
 have HM:=CM hm
 have uq:=CM hk1
 have xt:=CM (And.intro hbig hfb)
 have hr0:¬((r:Int)<0):=by omega
 have hw1:IntKind.i64.wrap (T.k.many-1)=T.k.many-1:=bV _ (by omega) (by omega)
 have hw2:IntKind.i64.wrap (T.k.depth-1)=T.k.depth-1:=bV _ (by omega) (by omega)
 have ul:=CM hw1
 have yj:=CM hw2
 have HZ:=CM hz
 clear hz
 clear hs hns hroot hr hrem hm hk1 hw1 hw2
 dsimp only [Val.v]
 go_enter Tryz.func91,Tryz.ntmps91
 go_upto_region 1 with (fail)
 obtain⟨W,hW,hs2⟩:=uk.out.hide
 rw [←hW]
 clear uk hW
 generalize w.heap.size=bk at hs2 ⊢
 obtain⟨t0,t1,t2,t3,t4,tf⟩:=hs2.tcells
 obtain⟨x0,x1,x2,xf⟩:=aT (Sat.blk hs2 4 rfl)
 rw [uY.out]at t2
 have ur:=CM hs2
 clear hs2
 refine af [(0,false,11),(1,false,11),(2,false,11),(3,false,11),(4,false,11),(5,false,11),(6,false,11),(7,false,11),(8,false,11),(9,false,11),(10,false,11),(11,true,0),(12,false,21),(13,false,21),(14,false,21),(15,false,21),(16,false,21),(17,false,21),(18,false,21),(19,false,21),(20,false,21),(21,true,0),(22,false,999),(23,false,999)] (by kernel_rfl) (by kernel_rfl) ?_
 iterate 3 (refine ae rfl rfl (fun K hK=>?_);go_simp;refine hK _ ?_;clear hK K)
 iterate 5 (first|(refine al rfl rfl ?_;simp only [Act.put,CO,CP,CQ,CR,CT,CU])|(refine ai rfl rfl (fun K hK=>?_);go_simp;refine hK _ ?_;clear hK K))
 iterate 2 (refine ae rfl rfl (fun K hK=>?_);go_simp;refine hK _ ?_;clear hK K)
 first|(refine al rfl rfl ?_;simp only [Act.put,CO,CP,CQ,CR,CT,CU])|(refine ai rfl rfl (fun K hK=>?_);go_simp;refine hK _ ?_;clear hK K)
 refine ag rfl ?_
 refine au rfl (fun K hK=>?_)
 go_simp
 refine(aK k _).mono ?_
 rw [HR.out]
 rintro e1 w1 ⟨rfl,hk1⟩
 have ut:=CM ((ur.out.drew).kept hk1)
 clear hk1 ur x0 x1 x2 xf t0 t1 t2 t3 t4 tf
 obtain⟨t0,t1,t2,t3,t4,tf⟩:=ut.out.tcells
 obtain⟨x0,x1,x2,xf⟩:=aT (Sat.blk ut.out 4 rfl)
 rw [uY.out]at t2
 have zi:=CM (wY.out w1 _ ⟨_,_,_,uL.out,ut.out⟩)
 refine hK _ _ ?_
 clear hK K
 refine wpList_nil ?_
 refine And.intro ?_ ?_
 ·go_simp
 first|(refine al rfl rfl ?_;simp only [Act.put,CO,CP,CQ,CR,CT,CU])|(refine ai rfl rfl (fun K hK=>?_);go_simp;refine hK _ ?_;clear hK K)
 iterate 2 (refine ae rfl rfl (fun K hK=>?_);go_simp;refine hK _ ?_;clear hK K)
 iterate 6 (first|(refine al rfl rfl ?_;simp only [Act.put,CO,CP,CQ,CR,CT,CU])|(refine ai rfl rfl (fun K hK=>?_);go_simp;refine hK _ ?_;clear hK K))
 refine ag rfl ?_
 refine au rfl (fun K hK=>?_)
 go_simp
 refine zi.out.mono ?_
 rintro e2 w2 ⟨rfl,nv2,fv2,ns2,hns2,hs2⟩
 rw [uq.out]at hs2
 have uy:=CM hs2
 have vR:=CM hns2
 clear hns2 x0 x1 x2 xf t0 t1 t2 t3 t4 tf
 obtain⟨t0,t1,t2,t3,t4,tf⟩:=hs2.tcells
 obtain⟨x0,x1,x2,xf⟩:=aT (Sat.blk hs2 4 rfl)
 rw [uY.out]at t2
 clear hs2
 refine hK _ _ ?_
 clear hK K
 refine wpList_nil ?_
 refine And.intro ?_ ?_
 ·go_simp
 first|(refine al rfl rfl ?_;simp only [Act.put,CO,CP,CQ,CR,CT,CU])|(refine ai rfl rfl (fun K hK=>?_);go_simp;refine hK _ ?_;clear hK K)
 refine ae rfl rfl (fun K hK=>?_);go_simp;refine hK _ ?_;clear hK K
 refine ah ?_
 obtain⟨⟨kv,vv,dv⟩,hp⟩:=aH vR.out HM.out
 have hlt:=(List.getElem?_eq_some_iff.1 hp).1
 have hib:(r:Int)<(ns2.length:Int):=by omega
 have HP:=CM hp
 obtain⟨g,c,rfl,_,hcm⟩:=uy.out.nv_some (by omega)
 unfold maxLen at hcm
 clear hp
 have hw1:=ul.out
 go_upto_region 4 with (fail)
 obtain⟨W5,hW5,hs5⟩:=(uy.out.set_many (T.k.many-1)).hide
 rw [←hW5]
 clear hW5 uy t0 t1 t2 t3 t4 tf x0 x1 x2 xf hw1
 obtain⟨t0,t1,t2,t3,t4,tf⟩:=hs5.tcells
 obtain⟨n0,n1,n2,n3,nf⟩:=hs5.node_cells HP.out
 dsimp only at n0 n1 n2 n3 t2 t3 t4
 rw [uY.out]at t2
 obtain⟨dO,dc,hdv⟩:=(hs5.focus HP.out).drop.drop.own_shape
 dsimp only at hdv
 subst hdv
 have uA:=CM hs5
 clear hs5
 rcases HZ.out with ⟨hl,hz⟩|⟨hl,hz⟩
 ·rw [hl]at n0
  have hz0:(T.k.many-1 == 0)=false:=by simp;omega
  clear hl hz
  go_wp2_with (fail)
  go_ret
  refine⟨rfl,.slice (some ⟨g,0,none⟩) ns2.length c,fv2,ns2,vR.out,?_⟩
  rw [show T1.less.k=({ root:=T.k.root,many:=T.k.many-1,depth:=T.k.depth }:Num) by unfold TM.less;rw [uq.out]]
  exact uA.out.drop
 ·rw [hl]at n0
  have hz0:((m.kids.length:Int) == 1)=false:=by simp;omega
  clear hl hz
  go_wp2_with (fail)
  go_ret
  refine⟨rfl,.slice (some ⟨g,0,none⟩) ns2.length c,fv2,ns2,vR.out,?_⟩
  rw [show T1.less.k=({ root:=T.k.root,many:=T.k.many-1,depth:=T.k.depth }:Num) by unfold TM.less;rw [uq.out]]
  exact uA.out.drop
theorem TreeA.nil_of {B w:World}{D:PH}{t:Nat}{T:TM}{l:List HP}(h:TreeA B D w t T l)(hr:T.k.root<0):NilT w (.pointer (some ⟨t,0,none⟩)):=by
 obtain⟨nv,fv,ns,hns,hs⟩:=h
 exact .inr ⟨t,_,rfl,hs.tcells.2.2.1,hr⟩
end Go.Proofs.YtdobimafhbfkhaaGreat
