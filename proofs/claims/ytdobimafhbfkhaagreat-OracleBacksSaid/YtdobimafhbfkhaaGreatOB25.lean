/- Joined texts: The tree: contract of Get. The tree: a tree that is none; Delete, by what remove does. The tree: Delete, where a key is taken away (printed by gendel.py). -/
import Derived.Test.YtdobimafhbfkhaaGreatOB24
set_option maxHeartbeats 64000000
namespace Go.Proofs.YtdobimafhbfkhaaGreat
open Go.ChangeShapes Go.WideShapes Go.ChangeAt Go.RowKit
set_option maxRecDepth 100000
set_option linter.unusedSimpArgs false
theorem TM.Leads.end_ {T:TM}{k:Val}{n i j:Nat}(h:T.Leads k n i j):∃m,T.nodes[j]?=some m∧m.leaf=true:=by
 induction h with
 | leaf hi hl=>exact⟨_,hi,hl⟩
 | inner _ _ _ _ _ ih=>exact ih
def NilT (w:World)(p:Value):Prop:=p = .pointer none∨∃t r,p = .pointer (some ⟨t,0,none⟩)∧w.cell? ⟨t,2,none⟩=some (.int .i64 r)∧r<0
theorem NilT.kept {w w':World}{p:Value}(h:NilT w p)(k:Kept (fun _=>False) w w'):NilT w' p:=h.imp (fun h=>h) (fun ⟨t,r,h1,h2,h3⟩=>⟨t,r,h1,k.cell' h2 (fun h=>h),h3⟩)
theorem qq {w:World}{k:Val}{p:Value}(hp:NilT w p) :
  Calls Tryz.prog 111 #[p,k.v] w fun e w'=>e = .returned (.pointer none)∧Kept (fun _=>False) w w':=by
 have hk1:Kept (fun _=>False) w (w.alloc (.cells #[.bool k.t,.int .i64 k.n,.string k.s] tV)):=(Kept.refl _ _).alloc _
 have tK:=B5 hk1
 dsimp only [Val.v]
 rcases hp with rfl|⟨t,r,rfl,hc,hr⟩
 ·clear hk1
  go_enter Tryz.func111,Tryz.ntmps111
  go_wp2_with (fail)
  go_ret
  exact⟨rfl,tK.out⟩
 ·have hc2:=hk1.cell' hc (fun h=>h)
  clear hk1 hc
  go_enter Tryz.func111,Tryz.ntmps111
  go_wp2_with (fail)
  go_ret
  exact⟨rfl,tK.out⟩
theorem sM {w:World}{k:Val}{p:Value}(hp:NilT w p) :
  Calls Tryz.prog 93 #[p,k.v] w fun e w'=>e = .returned (.tuple #[RowT.none.v,.bool false])∧Kept (fun _=>False) w w':=by
 have hk1:Kept (fun _=>False) w (w.alloc (.cells #[.bool k.t,.int .i64 k.n,.string k.s] tV)):=(Kept.refl _ _).alloc _
 have hb1:(w.alloc (.cells #[.bool k.t,.int .i64 k.n,.string k.s] tV)).heap[w.heap.size]?=some (.cells #[.bool k.t,.int .i64 k.n,.string k.s] tV (0,0)):=au w _
 have HP:=B5 (hp.kept hk1)
 have tK:=B5 hk1
 have tF:=B5 hb1
 clear hk1 hb1 hp
 dsimp only [Val.v]
 go_enter Tryz.func93,Tryz.ntmps93
 go_upto_region 2 with (fail)
 obtain⟨W,hW⟩:∃W,W=w.alloc (.cells #[.bool k.t,.int .i64 k.n,.string k.s] tV):=⟨_,rfl⟩
 rw [←hW]at tK tF HP ⊢
 generalize w.heap.size=bk at tF ⊢
 obtain⟨x0,x1,x2,xf⟩:=aT tF.out
 clear hW
 go_wp2_with ((go_at_call 111;refine(qq HP.out).mono ?_;rintro e1 w1 ⟨rfl,hk2⟩;have tX:=B5 (tK.out.trans hk2 (fun _ h=>h.elim));clear hk2 x0 x1 x2 xf))
 go_ret2
 exact⟨rfl,tX.out⟩
def NodeM.get (m:NodeM)(k:Val):VT:=if al k&&dF m.keys k then m.vals.getD (bg m.keys k) RowT.none else RowT.none
def NodeM.has (m:NodeM)(k:Val):Bool:=al k&&dF m.keys k
theorem Get_at {B w:World}{D:PH}{t n r j:Nat}{T:TM}{l:List HP}{k:Val}{m:NodeM}(hroot:T.k.root=(r:Int))(hld:T.Leads k n r j)(hj:T.nodes[j]?=some m)(hkb:m.keys.length≤1000)(hv:m.vals.length=m.keys.length)
  (h:TreeA B D w t T l) :
  Calls Tryz.prog 93 #[.pointer (some ⟨t,0,none⟩),k.v] w fun e w'=>e = .returned (.tuple #[(m.get k).v,.bool (m.has k)])∧Kept (fun _=>False) w w':=by
 obtain⟨nv,fv,ns,hns,hs⟩:=h
 obtain⟨⟨kv,vv,dv⟩,hp⟩:=aI hns hj
 have hlt:=(List.getElem?_eq_some_iff.1 hp).1
 obtain⟨g,c,rfl,_,hcm⟩:=hs.nv_some (by omega)
 unfold maxLen at hcm
 have hk1:Kept (fun _=>False) w (w.alloc (.cells #[.bool k.t,.int .i64 k.n,.string k.s] tV)):=(Kept.refl _ _).alloc _
 have hb1:(w.alloc (.cells #[.bool k.t,.int .i64 k.n,.string k.s] tV)).heap[w.heap.size]?=some (.cells #[.bool k.t,.int .i64 k.n,.string k.s] tV (0,0)):=au w _
 have hib:(j:Int)<(ns.length:Int):=by omega
 obtain⟨ko,kc,hkv⟩:=(hs.focus hp).own_shape
 obtain⟨vo,vc,hvv⟩:=(hs.focus hp).drop.own_shape
 dsimp only at hkv hvv
 rw [hv]at hvv
 subst hkv hvv
 have HS:=B5 (hs.kept hk1)
 have tK:=B5 hk1
 have tF:=B5 hb1
 have uk:=B5 hns
 have wb:=B5 hld
 have uB:=B5 hroot
 have HP:=B5 hp
 have HV:=B5 hv
 have hkb2:m.keys.length≤1000000:=by omega
 clear hs hk1 hb1 hns hld hroot hp hj hv
 dsimp only [Val.v]
 go_enter Tryz.func93,Tryz.ntmps93
 go_upto_region 2 with (fail)
 obtain⟨W,hW⟩:∃W,W=w.alloc (.cells #[.bool k.t,.int .i64 k.n,.string k.s] tV):=⟨_,rfl⟩
 rw [←hW]at tK tF HS ⊢
 generalize w.heap.size=bk at tF ⊢
 obtain⟨x0,x1,x2,xf⟩:=aT tF.out
 clear hW
 go_upto_region 3 with ((go_at_call 111;refine(leaf_ok uk.out uB.out wb.out HS.out).mono ?_;rintro e1 w1 ⟨rfl,hk2⟩;have tX:=B5 hk2;clear hk2 x0 x1 x2 xf))
 have wt:=B5 (tK.out.trans tX.out (fun _ h=>h.elim))
 obtain⟨x0,x1,x2,xf⟩:=aT ((tX.out.block _ (ax tF.out) (fun h=>h)).trans tF.out)
 cases hr:al k
 ·have HR:=B5 hr
  have HG:=B5 (show m.get k=RowT.none∧m.has k=false by unfold NodeM.get NodeM.has;rw [hr];exact⟨rfl,rfl⟩)
  clear hr
  go_wp2_with ((go_at_call 32;refine(aJ k _).mono ?_;rw [HR.out];rintro e2 w2 ⟨rfl,hk3⟩;have uF:=B5 (wt.out.trans hk3 (fun _ h=>h.elim));clear hk3))
  go_ret2
  exact⟨by rw [HG.out.1,HG.out.2];rfl,uF.out⟩
 ·have HR:=B5 hr
  clear hr
  go_upto_region 5 with ((go_at_call 32;refine(aJ k _).mono ?_;rw [HR.out];rintro e2 w2 ⟨rfl,hk3⟩;have uF:=B5 (tX.out.trans hk3 (fun _ h=>h.elim));clear hk3 x0 x1 x2 xf))
  have hs4:=HS.out.kept uF.out
  obtain⟨x0,x1,x2,xf⟩:=aT ((uF.out.block _ (ax tF.out) (fun h=>h)).trans tF.out)
  obtain⟨n0,n1,n2,n3,nf⟩:=hs4.node_cells HP.out
  dsimp only at n0 n1 n2 n3
  have hrd:=hs4.drew.keys_rd HP.out
  dsimp only at hrd
  have tM:=B5 hrd
  have tP:=B5 hs4
  clear hrd hs4
  refine af [(0,false,5),(1,false,5),(2,false,5),(3,false,5),(4,false,5),(5,true,0),(6,false,999),(7,false,999),(8,false,999),(9,false,999),(10,false,999)] (by kernel_rfl) (by kernel_rfl) ?_
  iterate 5 (refine ae rfl rfl (fun K hK=>?_);go_simp;refine hK _ ?_;clear hK K)
  refine ah rfl ?_
  refine aq rfl (fun K hK=>?_)
  go_simp
  refine(eG k tM.out hkb2).mono ?_
  rintro e5 w5 ⟨rfl,hk5⟩
  have hk5':Kept (fun _=>False) w2 w5:=((Kept.refl _ _).drew).trans hk5 (fun _ h=>h.elim)
  have hs5:=tP.out.kept hk5'
  have A9:=B5 ((tK.out.trans uF.out (fun _ h=>h.elim)).trans hk5' (fun _ h=>h.elim))
  clear x0 x1 x2 xf n0 n1 n2 n3 nf tM hk5 hk5'
  obtain⟨n0,n1,n2,n3,nf⟩:=hs5.node_cells HP.out
  dsimp only at n0 n1 n2 n3
  have BC:=B5 (hs5.vals_rd HP.out)
  clear hs5
  refine hK _ _ ?_
  clear hK K
  refine wpList_nil ?_
  refine And.intro ?_ ?_
  ·go_simp
  iterate 5 (refine ae rfl rfl (fun K hK=>?_);go_simp;refine hK _ ?_;clear hK K)
  refine ai ?_
  cases his:dF m.keys k
  ·have HG:=B5 (show m.get k=RowT.none∧m.has k=false by unfold NodeM.get NodeM.has;rw [his,Bool.and_false];exact⟨rfl,rfl⟩)
   clear his
   go_wp2_with (fail)
   go_ret2
   exact⟨by rw [HG.out.1,HG.out.2];rfl,A9.out⟩
  ·have hbl:=jN his
   obtain⟨v,hvx⟩:∃v,m.vals[bg m.keys k]?=some v:=⟨m.vals[bg m.keys k]'(by rw [HV.out];exact hbl),List.getElem?_eq_getElem _⟩
   have hvr:=BC.out
   dsimp only at hvr
   rw [HV.out]at hvr
   obtain⟨vg,vo2,rfl,hvc⟩:∃vg vo2,vo=some ⟨vg,vo2,none⟩∧w5.cell? ⟨vg,vo2+bg m.keys k,none⟩=some v.v:=by
    obtain⟨_,_,hvq,_,_,_,hc⟩:=hvr.2.2
    cases hvq
    rcases hc with h0|⟨vg,vo2,hg,hc⟩
    ·omega
    ·have:=hc _ _ (br jE m.vals _ v hvx 0 _ rfl)
     exact⟨vg,vo2,hg,by simpa using this⟩
   have hab:(bg m.keys k:Int)<(m.keys.length:Int):=by omega
   have HG:=B5 (show m.get k=v∧m.has k=true by unfold NodeM.get NodeM.has;rw [HR.out,his,Bool.and_true,if_pos rfl,List.getD_eq_getElem?_getD,hvx];exact⟨rfl,rfl⟩)
   clear his hvx hvr
   go_wp2_with (fail)
   go_ret2
   exact⟨by rw [HG.out.1,HG.out.2];rfl,A9.out⟩
attribute [local go_sem] Oper.semAt_some
theorem oG {w:World}{k:Val}{p:Value}(hp:NilT w p) :
  Calls Tryz.prog 91 #[p,k.v] w fun e w'=>e = .returned (.bool false)∧Kept (fun _=>False) w w':=by
 have hk1:Kept (fun _=>False) w (w.alloc (.cells #[.bool k.t,.int .i64 k.n,.string k.s] tV)):=(Kept.refl _ _).alloc _
 have hp1:=hp.kept hk1
 have tK:=B5 hk1
 clear hk1 hp
 dsimp only [Val.v]
 rcases hp1 with rfl|⟨t,r,rfl,hc,hr⟩
 all_goals
  go_enter Tryz.func91,Tryz.ntmps91
  go_upto_region 1 with (fail)
  refine af [(0,false,11),(1,false,11),(2,false,11),(3,false,11),(4,false,11),(5,false,11),(6,false,11),(7,false,11),(8,false,11),(9,false,11),(10,false,11),(11,true,0),(12,false,21),(13,false,21),(14,false,21),(15,false,21),(16,false,21),(17,false,21),(18,false,21),(19,false,21),(20,false,21),(21,true,0),(22,false,999),(23,false,999)] (by kernel_rfl) (by kernel_rfl) ?_
  iterate 3 (refine ae rfl rfl (fun K hK=>?_);go_simp;refine hK _ ?_;clear hK K)
  iterate 5 (first|(refine aw rfl rfl ?_;simp only [Act.put,B6,B7,B8,B9,Ca,Cb])|(refine am rfl rfl (fun K hK=>?_);go_simp;refine hK _ ?_;clear hK K))
  iterate 2 (refine ae rfl rfl (fun K hK=>?_);go_simp;refine hK _ ?_;clear hK K)
  first|(refine aw rfl rfl ?_;simp only [Act.put,B6,B7,B8,B9,Ca,Cb])|(refine am rfl rfl (fun K hK=>?_);go_simp;refine hK _ ?_;clear hK K)
  refine ah rfl ?_
  refine bV rfl ?_
  simp only [Act.put,B6,B7,B8]
  refine wpList_nil ?_
  refine And.intro ?_ ?_
  ·go_simp
  first|(refine aw rfl rfl ?_;simp only [Act.put,B6,B7,B8,B9,Ca,Cb])|(refine am rfl rfl (fun K hK=>?_);go_simp;refine hK _ ?_;clear hK K)
  iterate 2 (refine ae rfl rfl (fun K hK=>?_);go_simp;refine hK _ ?_;clear hK K)
  iterate 6 (first|(refine aw rfl rfl ?_;simp only [Act.put,B6,B7,B8,B9,Ca,Cb])|(refine am rfl rfl (fun K hK=>?_);go_simp;refine hK _ ?_;clear hK K))
  refine ah rfl ?_
  refine bV rfl ?_
  simp only [Act.put,B6,B7,B8]
  refine wpList_nil ?_
  refine And.intro ?_ ?_
  ·go_simp
  first|(refine aw rfl rfl ?_;simp only [Act.put,B6,B7,B8,B9,Ca,Cb])|(refine am rfl rfl (fun K hK=>?_);go_simp;refine hK _ ?_;clear hK K)
  refine ae rfl rfl (fun K hK=>?_);go_simp;refine hK _ ?_;clear hK K
  refine ai ?_
  go_wp2_with fail
  go_ret
  exact⟨rfl,tK.out.drew⟩
def TM.less (T:TM):TM:={ T with k:={ T.k with many:=T.k.many-1 } }
def TM.drop1 (T:TM)(root:Int)(top:Nat):TM:={ (T.give top)with k:={ root:=root,many:=T.k.many-1,depth:=T.k.depth-1 } }
theorem ml {B w:World}{D:PH}{t r:Nat}{T:TM}{l:List HP}{k:Val}(hr:al k=false∨(al k=true∧∀(w:World) (l:List HP),TreeA B D w t T l→Calls Tryz.prog 105 #[.pointer (some ⟨t,0,none⟩),.int .i64 r,k.v] w fun e w'=>e = .returned (.bool false)∧TreeA B D w' t T l))
  (hroot:T.k.root=(r:Int)) (h:TreeA B D w t T l) :
  Calls Tryz.prog 91 #[.pointer (some ⟨t,0,none⟩),k.v] w fun e w'=>e = .returned (.bool false)∧TreeA B D w' t T l:=by
 obtain⟨nv,fv,ns,hns,hs⟩:=h
 have tD:=B5 (hs.alloc #[.bool k.t,.int .i64 k.n,.string k.s] tV)
 have uk:=B5 hns
 have uB:=B5 hroot
 have hr0:¬((r:Int)<0):=by omega
 clear hs hns hroot
 dsimp only [Val.v]
 rcases hr with hr|⟨hr,hrem⟩
 all_goals
  have HR:=B5 hr
  clear hr
  go_enter Tryz.func91,Tryz.ntmps91
  go_upto_region 1 with (fail)
  obtain⟨W,hW,hs2⟩:=tD.out.hide
  rw [←hW]
  clear tD hW
  generalize w.heap.size=bk at hs2 ⊢
  obtain⟨t0,t1,t2,t3,t4,tf⟩:=hs2.tcells
  obtain⟨x0,x1,x2,xf⟩:=aT (Sat.blk hs2 4 rfl)
  rw [uB.out]at t2
  have tL:=B5 hs2
  clear hs2
 ·refine af [(0,false,11),(1,false,11),(2,false,11),(3,false,11),(4,false,11),(5,false,11),(6,false,11),(7,false,11),(8,false,11),(9,false,11),(10,false,11),(11,true,0),(12,false,21),(13,false,21),(14,false,21),(15,false,21),(16,false,21),(17,false,21),(18,false,21),(19,false,21),(20,false,21),(21,true,0),(22,false,999),(23,false,999)] (by kernel_rfl) (by kernel_rfl) ?_
  iterate 3 (refine ae rfl rfl (fun K hK=>?_);go_simp;refine hK _ ?_;clear hK K)
  iterate 5 (first|(refine aw rfl rfl ?_;simp only [Act.put,B6,B7,B8,B9,Ca,Cb])|(refine am rfl rfl (fun K hK=>?_);go_simp;refine hK _ ?_;clear hK K))
  iterate 2 (refine ae rfl rfl (fun K hK=>?_);go_simp;refine hK _ ?_;clear hK K)
  first|(refine aw rfl rfl ?_;simp only [Act.put,B6,B7,B8,B9,Ca,Cb])|(refine am rfl rfl (fun K hK=>?_);go_simp;refine hK _ ?_;clear hK K)
  refine ah rfl ?_
  refine aq rfl (fun K hK=>?_)
  go_simp
  refine(aJ k _).mono ?_
  rw [HR.out]
  rintro e1 w1 ⟨rfl,hk1⟩
  have tH:=B5 ((tL.out.drew).kept hk1)
  clear hk1 tL x0 x1 x2 xf t0 t1 t2 t3 t4 tf
  obtain⟨t0,t1,t2,t3,t4,tf⟩:=tH.out.tcells
  obtain⟨x0,x1,x2,xf⟩:=aT (Sat.blk tH.out 4 rfl)
  rw [uB.out]at t2
  refine hK _ _ ?_
  clear hK K
  refine wpList_nil ?_
  refine And.intro ?_ ?_
  ·go_simp
  first|(refine aw rfl rfl ?_;simp only [Act.put,B6,B7,B8,B9,Ca,Cb])|(refine am rfl rfl (fun K hK=>?_);go_simp;refine hK _ ?_;clear hK K)
  iterate 2 (refine ae rfl rfl (fun K hK=>?_);go_simp;refine hK _ ?_;clear hK K)
  iterate 6 (first|(refine aw rfl rfl ?_;simp only [Act.put,B6,B7,B8,B9,Ca,Cb])|(refine am rfl rfl (fun K hK=>?_);go_simp;refine hK _ ?_;clear hK K))
  refine ah rfl ?_
  refine bV rfl ?_
  simp only [Act.put,B6,B7,B8]
  refine wpList_nil ?_
  refine And.intro ?_ ?_
  ·go_simp
  first|(refine aw rfl rfl ?_;simp only [Act.put,B6,B7,B8,B9,Ca,Cb])|(refine am rfl rfl (fun K hK=>?_);go_simp;refine hK _ ?_;clear hK K)
  refine ae rfl rfl (fun K hK=>?_);go_simp;refine hK _ ?_;clear hK K
  refine ai ?_
  go_wp2_with fail
  go_ret
  exact⟨rfl,_,_,_,uk.out,tH.out.drop⟩
 ·have wd:=B5 hrem
  clear hrem
  refine af [(0,false,11),(1,false,11),(2,false,11),(3,false,11),(4,false,11),(5,false,11),(6,false,11),(7,false,11),(8,false,11),(9,false,11),(10,false,11),(11,true,0),(12,false,21),(13,false,21),(14,false,21),(15,false,21),(16,false,21),(17,false,21),(18,false,21),(19,false,21),(20,false,21),(21,true,0),(22,false,999),(23,false,999)] (by kernel_rfl) (by kernel_rfl) ?_
  iterate 3 (refine ae rfl rfl (fun K hK=>?_);go_simp;refine hK _ ?_;clear hK K)
  iterate 5 (first|(refine aw rfl rfl ?_;simp only [Act.put,B6,B7,B8,B9,Ca,Cb])|(refine am rfl rfl (fun K hK=>?_);go_simp;refine hK _ ?_;clear hK K))
  iterate 2 (refine ae rfl rfl (fun K hK=>?_);go_simp;refine hK _ ?_;clear hK K)
  first|(refine aw rfl rfl ?_;simp only [Act.put,B6,B7,B8,B9,Ca,Cb])|(refine am rfl rfl (fun K hK=>?_);go_simp;refine hK _ ?_;clear hK K)
  refine ah rfl ?_
  refine aq rfl (fun K hK=>?_)
  go_simp
  refine(aJ k _).mono ?_
  rw [HR.out]
  rintro e1 w1 ⟨rfl,hk1⟩
  have tH:=B5 ((tL.out.drew).kept hk1)
  clear hk1 tL x0 x1 x2 xf t0 t1 t2 t3 t4 tf
  obtain⟨t0,t1,t2,t3,t4,tf⟩:=tH.out.tcells
  obtain⟨x0,x1,x2,xf⟩:=aT (Sat.blk tH.out 4 rfl)
  rw [uB.out]at t2
  have yn:=B5 (wd.out w1 _ ⟨_,_,_,uk.out,tH.out⟩)
  refine hK _ _ ?_
  clear hK K
  refine wpList_nil ?_
  refine And.intro ?_ ?_
  ·go_simp
  first|(refine aw rfl rfl ?_;simp only [Act.put,B6,B7,B8,B9,Ca,Cb])|(refine am rfl rfl (fun K hK=>?_);go_simp;refine hK _ ?_;clear hK K)
  iterate 2 (refine ae rfl rfl (fun K hK=>?_);go_simp;refine hK _ ?_;clear hK K)
  iterate 6 (first|(refine aw rfl rfl ?_;simp only [Act.put,B6,B7,B8,B9,Ca,Cb])|(refine am rfl rfl (fun K hK=>?_);go_simp;refine hK _ ?_;clear hK K))
  refine ah rfl ?_
  refine aq rfl (fun K hK=>?_)
  go_simp
  refine yn.out.mono ?_
  rintro e2 w2 ⟨rfl,nv2,fv2,ns2,hns2,hs2⟩
  have tP:=B5 hs2
  have u7:=B5 hns2
  clear hns2 x0 x1 x2 xf t0 t1 t2 t3 t4 tf
  obtain⟨t0,t1,t2,t3,t4,tf⟩:=hs2.tcells
  obtain⟨x0,x1,x2,xf⟩:=aT (Sat.blk hs2 4 rfl)
  rw [uB.out]at t2
  clear hs2
  refine hK _ _ ?_
  clear hK K
  refine wpList_nil ?_
  refine And.intro ?_ ?_
  ·go_simp
  first|(refine aw rfl rfl ?_;simp only [Act.put,B6,B7,B8,B9,Ca,Cb])|(refine am rfl rfl (fun K hK=>?_);go_simp;refine hK _ ?_;clear hK K)
  refine ae rfl rfl (fun K hK=>?_);go_simp;refine hK _ ?_;clear hK K
  refine ai ?_
  go_wp2_with fail
  go_ret
  exact⟨rfl,_,_,_,u7.out,tP.out.drop⟩
theorem nP {B w:World}{D:PH}{t r:Nat}{T T1:TM}{l:List HP}{k:Val}{m:NodeM}(hr:al k=true)(hrem:∀(w:World) (l:List HP),TreeA B D w t T l→Calls Tryz.prog 105 #[.pointer (some ⟨t,0,none⟩),.int .i64 r,k.v] w fun e w'=>e = .returned (.bool true)∧TreeA B D w' t T1 l)
  (hroot:T.k.root=(r:Int)) (hk1:T1.k=T.k) (hfit:T.k.fit) (hm:T1.nodes[r]?=some m) (hbig:T1.nodes.length≤1000000) (hfb:T1.free.length≤1000000) (hl:m.leaf=true) (hz:T.k.many=1) (h:TreeA B D w t T l) :
  Calls Tryz.prog 91 #[.pointer (some ⟨t,0,none⟩),k.v] w fun e w'=>e = .returned (.bool true)∧TreeA B D w' t (T1.drop1 (-1) r) l:=by
 obtain⟨nv,fv,ns,hns,hs⟩:=h
 obtain⟨f1,f2,f3,f4⟩:=hfit
 have tD:=B5 (hs.alloc #[.bool k.t,.int .i64 k.n,.string k.s] tV)
 have uk:=B5 hns
 have uB:=B5 hroot
 have HR:=B5 hr
 have wd:=B5 hrem
 have HM:=B5 hm
 have tK:=B5 hk1
 have wD:=B5 (And.intro hbig hfb)
 have hr0:¬((r:Int)<0):=by omega
 have hw1:IntKind.i64.wrap (T.k.many-1)=T.k.many-1:=bU _ (by omega) (by omega)
 have hw2:IntKind.i64.wrap (T.k.depth-1)=T.k.depth-1:=bU _ (by omega) (by omega)
 have tE:=B5 hw1
 have xp:=B5 hw2
 have HL:=B5 hl
 have HZ:=B5 hz
 clear hl hz
 clear hs hns hroot hr hrem hm hk1 hw1 hw2
 dsimp only [Val.v]
 go_enter Tryz.func91,Tryz.ntmps91
 go_upto_region 1 with (fail)
 obtain⟨W,hW,hs2⟩:=tD.out.hide
 rw [←hW]
 clear tD hW
 generalize w.heap.size=bk at hs2 ⊢
 obtain⟨t0,t1,t2,t3,t4,tf⟩:=hs2.tcells
 obtain⟨x0,x1,x2,xf⟩:=aT (Sat.blk hs2 4 rfl)
 rw [uB.out]at t2
 have tL:=B5 hs2
 clear hs2
 refine af [(0,false,11),(1,false,11),(2,false,11),(3,false,11),(4,false,11),(5,false,11),(6,false,11),(7,false,11),(8,false,11),(9,false,11),(10,false,11),(11,true,0),(12,false,21),(13,false,21),(14,false,21),(15,false,21),(16,false,21),(17,false,21),(18,false,21),(19,false,21),(20,false,21),(21,true,0),(22,false,999),(23,false,999)] (by kernel_rfl) (by kernel_rfl) ?_
 iterate 3 (refine ae rfl rfl (fun K hK=>?_);go_simp;refine hK _ ?_;clear hK K)
 iterate 5 (first|(refine aw rfl rfl ?_;simp only [Act.put,B6,B7,B8,B9,Ca,Cb])|(refine am rfl rfl (fun K hK=>?_);go_simp;refine hK _ ?_;clear hK K))
 iterate 2 (refine ae rfl rfl (fun K hK=>?_);go_simp;refine hK _ ?_;clear hK K)
 first|(refine aw rfl rfl ?_;simp only [Act.put,B6,B7,B8,B9,Ca,Cb])|(refine am rfl rfl (fun K hK=>?_);go_simp;refine hK _ ?_;clear hK K)
 refine ah rfl ?_
 refine aq rfl (fun K hK=>?_)
 go_simp
 refine(aJ k _).mono ?_
 rw [HR.out]
 rintro e1 w1 ⟨rfl,hk1⟩
 have tH:=B5 ((tL.out.drew).kept hk1)
 clear hk1 tL x0 x1 x2 xf t0 t1 t2 t3 t4 tf
 obtain⟨t0,t1,t2,t3,t4,tf⟩:=tH.out.tcells
 obtain⟨x0,x1,x2,xf⟩:=aT (Sat.blk tH.out 4 rfl)
 rw [uB.out]at t2
 have yn:=B5 (wd.out w1 _ ⟨_,_,_,uk.out,tH.out⟩)
 refine hK _ _ ?_
 clear hK K
 refine wpList_nil ?_
 refine And.intro ?_ ?_
 ·go_simp
 first|(refine aw rfl rfl ?_;simp only [Act.put,B6,B7,B8,B9,Ca,Cb])|(refine am rfl rfl (fun K hK=>?_);go_simp;refine hK _ ?_;clear hK K)
 iterate 2 (refine ae rfl rfl (fun K hK=>?_);go_simp;refine hK _ ?_;clear hK K)
 iterate 6 (first|(refine aw rfl rfl ?_;simp only [Act.put,B6,B7,B8,B9,Ca,Cb])|(refine am rfl rfl (fun K hK=>?_);go_simp;refine hK _ ?_;clear hK K))
 refine ah rfl ?_
 refine aq rfl (fun K hK=>?_)
 go_simp
 refine yn.out.mono ?_
 rintro e2 w2 ⟨rfl,nv2,fv2,ns2,hns2,hs2⟩
 rw [tK.out]at hs2
 have tP:=B5 hs2
 have u7:=B5 hns2
 clear hns2 x0 x1 x2 xf t0 t1 t2 t3 t4 tf
 obtain⟨t0,t1,t2,t3,t4,tf⟩:=hs2.tcells
 obtain⟨x0,x1,x2,xf⟩:=aT (Sat.blk hs2 4 rfl)
 rw [uB.out]at t2
 clear hs2
 refine hK _ _ ?_
 clear hK K
 refine wpList_nil ?_
 refine And.intro ?_ ?_
 ·go_simp
 first|(refine aw rfl rfl ?_;simp only [Act.put,B6,B7,B8,B9,Ca,Cb])|(refine am rfl rfl (fun K hK=>?_);go_simp;refine hK _ ?_;clear hK K)
 refine ae rfl rfl (fun K hK=>?_);go_simp;refine hK _ ?_;clear hK K
 refine ai ?_
 obtain⟨⟨kv,vv,dv⟩,hp⟩:=aI u7.out HM.out
 have hlt:=(List.getElem?_eq_some_iff.1 hp).1
 have hib:(r:Int)<(ns2.length:Int):=by omega
 have HP:=B5 hp
 obtain⟨g,c,rfl,_,hcm⟩:=tP.out.nv_some (by omega)
 unfold maxLen at hcm
 clear hp
 have hw1:=tE.out
 go_upto_region 4 with (fail)
 obtain⟨W5,hW5,hs5⟩:=(tP.out.set_many (T.k.many-1)).hide
 rw [←hW5]
 clear hW5 tP t0 t1 t2 t3 t4 tf x0 x1 x2 xf hw1
 obtain⟨t0,t1,t2,t3,t4,tf⟩:=hs5.tcells
 obtain⟨n0,n1,n2,n3,nf⟩:=hs5.node_cells HP.out
 dsimp only at n0 n1 n2 n3 t2 t3 t4
 rw [uB.out]at t2
 rw [HL.out]at n0
 have hz0:T.k.many-1=0:=by have:=HZ.out;omega
 have tU:=B5 hs5
 clear hs5
 go_upto_region 10 with (fail)
 obtain⟨W6,hW6,hs6⟩:=(tU.out.set_root (-1)).hide
 rw [←hW6]
 clear hW6 tU t0 t1 t2 t3 t4 tf n0 n1 n2 n3 nf
 have HG:=B5 (jR (B:=B) (D:=D) (t:=t) (T:={ T1 with k:={ root:=(-1),many:=T.k.many-1,depth:=T.k.depth } }) (i:=r) (List.getElem?_eq_some_iff.1 HM.out).1 wD.out.1 wD.out.2 ⟨_,_,_,u7.out,hs6⟩)
 clear hs6
 go_upto_region 11 with ((go_at_call 106;refine HG.out.mono ?_;rintro e7 w7 ⟨rfl,nv7,fv7,ns7,hns7,hs7⟩;obtain⟨t0,t1,t2,t3,t4,tf⟩:=hs7.tcells;have uv:=B5 hs7;have wZ:=B5 hns7;clear hs7 hns7;dsimp only [TM.give]at t4))
 have hw2:=xp.out
 go_wp2_with (fail)
 go_ret
 refine⟨rfl,nv7,fv7,ns7,wZ.out,?_⟩
 rw [show(T1.drop1 (-1) r).k=({ root := -1,many:=T.k.many-1,depth:=T.k.depth-1 }:Num) by unfold TM.drop1;rw [tK.out]]
 exact(uv.out.set_depth (T.k.depth-1)).drop
theorem pD {B w:World}{D:PH}{t r:Nat}{T T1:TM}{l:List HP}{k:Val}{m:NodeM}(hr:al k=true)(hrem:∀(w:World) (l:List HP),TreeA B D w t T l→Calls Tryz.prog 105 #[.pointer (some ⟨t,0,none⟩),.int .i64 r,k.v] w fun e w'=>e = .returned (.bool true)∧TreeA B D w' t T1 l)
  (hroot:T.k.root=(r:Int)) (hk1:T1.k=T.k) (hfit:T.k.fit) (hm:T1.nodes[r]?=some m) (hbig:T1.nodes.length≤1000000) (hfb:T1.free.length≤1000000) {c0:Nat} (hl:m.leaf=false) (hz:m.kids = [c0]) (h:TreeA B D w t T l) :
  Calls Tryz.prog 91 #[.pointer (some ⟨t,0,none⟩),k.v] w fun e w'=>e = .returned (.bool true)∧TreeA B D w' t (T1.drop1 (c0:Int) r) l:=by
 obtain⟨nv,fv,ns,hns,hs⟩:=h
 obtain⟨f1,f2,f3,f4⟩:=hfit
 have tD:=B5 (hs.alloc #[.bool k.t,.int .i64 k.n,.string k.s] tV)
 have uk:=B5 hns
 have uB:=B5 hroot
 have HR:=B5 hr
 have wd:=B5 hrem
 have HM:=B5 hm
 have tK:=B5 hk1
 have wD:=B5 (And.intro hbig hfb)
 have hr0:¬((r:Int)<0):=by omega
 have hw1:IntKind.i64.wrap (T.k.many-1)=T.k.many-1:=bU _ (by omega) (by omega)
 have hw2:IntKind.i64.wrap (T.k.depth-1)=T.k.depth-1:=bU _ (by omega) (by omega)
 have tE:=B5 hw1
 have xp:=B5 hw2
 have HL:=B5 hl
 have HZ:=B5 hz
 clear hl hz
 clear hs hns hroot hr hrem hm hk1 hw1 hw2
 dsimp only [Val.v]
 go_enter Tryz.func91,Tryz.ntmps91
 go_upto_region 1 with (fail)
 obtain⟨W,hW,hs2⟩:=tD.out.hide
 rw [←hW]
 clear tD hW
 generalize w.heap.size=bk at hs2 ⊢
 obtain⟨t0,t1,t2,t3,t4,tf⟩:=hs2.tcells
 obtain⟨x0,x1,x2,xf⟩:=aT (Sat.blk hs2 4 rfl)
 rw [uB.out]at t2
 have tL:=B5 hs2
 clear hs2
 refine af [(0,false,11),(1,false,11),(2,false,11),(3,false,11),(4,false,11),(5,false,11),(6,false,11),(7,false,11),(8,false,11),(9,false,11),(10,false,11),(11,true,0),(12,false,21),(13,false,21),(14,false,21),(15,false,21),(16,false,21),(17,false,21),(18,false,21),(19,false,21),(20,false,21),(21,true,0),(22,false,999),(23,false,999)] (by kernel_rfl) (by kernel_rfl) ?_
 iterate 3 (refine ae rfl rfl (fun K hK=>?_);go_simp;refine hK _ ?_;clear hK K)
 iterate 5 (first|(refine aw rfl rfl ?_;simp only [Act.put,B6,B7,B8,B9,Ca,Cb])|(refine am rfl rfl (fun K hK=>?_);go_simp;refine hK _ ?_;clear hK K))
 iterate 2 (refine ae rfl rfl (fun K hK=>?_);go_simp;refine hK _ ?_;clear hK K)
 first|(refine aw rfl rfl ?_;simp only [Act.put,B6,B7,B8,B9,Ca,Cb])|(refine am rfl rfl (fun K hK=>?_);go_simp;refine hK _ ?_;clear hK K)
 refine ah rfl ?_
 refine aq rfl (fun K hK=>?_)
 go_simp
 refine(aJ k _).mono ?_
 rw [HR.out]
 rintro e1 w1 ⟨rfl,hk1⟩
 have tH:=B5 ((tL.out.drew).kept hk1)
 clear hk1 tL x0 x1 x2 xf t0 t1 t2 t3 t4 tf
 obtain⟨t0,t1,t2,t3,t4,tf⟩:=tH.out.tcells
 obtain⟨x0,x1,x2,xf⟩:=aT (Sat.blk tH.out 4 rfl)
 rw [uB.out]at t2
 have yn:=B5 (wd.out w1 _ ⟨_,_,_,uk.out,tH.out⟩)
 refine hK _ _ ?_
 clear hK K
 refine wpList_nil ?_
 refine And.intro ?_ ?_
 ·go_simp
 first|(refine aw rfl rfl ?_;simp only [Act.put,B6,B7,B8,B9,Ca,Cb])|(refine am rfl rfl (fun K hK=>?_);go_simp;refine hK _ ?_;clear hK K)
 iterate 2 (refine ae rfl rfl (fun K hK=>?_);go_simp;refine hK _ ?_;clear hK K)
 iterate 6 (first|(refine aw rfl rfl ?_;simp only [Act.put,B6,B7,B8,B9,Ca,Cb])|(refine am rfl rfl (fun K hK=>?_);go_simp;refine hK _ ?_;clear hK K))
 refine ah rfl ?_
 refine aq rfl (fun K hK=>?_)
 go_simp
 refine yn.out.mono ?_
 rintro e2 w2 ⟨rfl,nv2,fv2,ns2,hns2,hs2⟩
 rw [tK.out]at hs2
 have tP:=B5 hs2
 have u7:=B5 hns2
 clear hns2 x0 x1 x2 xf t0 t1 t2 t3 t4 tf
 obtain⟨t0,t1,t2,t3,t4,tf⟩:=hs2.tcells
 obtain⟨x0,x1,x2,xf⟩:=aT (Sat.blk hs2 4 rfl)
 rw [uB.out]at t2
 clear hs2
 refine hK _ _ ?_
 clear hK K
 refine wpList_nil ?_
 refine And.intro ?_ ?_
 ·go_simp
 first|(refine aw rfl rfl ?_;simp only [Act.put,B6,B7,B8,B9,Ca,Cb])|(refine am rfl rfl (fun K hK=>?_);go_simp;refine hK _ ?_;clear hK K)
 refine ae rfl rfl (fun K hK=>?_);go_simp;refine hK _ ?_;clear hK K
 refine ai ?_
 obtain⟨⟨kv,vv,dv⟩,hp⟩:=aI u7.out HM.out
 have hlt:=(List.getElem?_eq_some_iff.1 hp).1
 have hib:(r:Int)<(ns2.length:Int):=by omega
 have HP:=B5 hp
 obtain⟨g,c,rfl,_,hcm⟩:=tP.out.nv_some (by omega)
 unfold maxLen at hcm
 clear hp
 have hw1:=tE.out
 go_upto_region 4 with (fail)
 obtain⟨W5,hW5,hs5⟩:=(tP.out.set_many (T.k.many-1)).hide
 rw [←hW5]
 clear hW5 tP t0 t1 t2 t3 t4 tf x0 x1 x2 xf hw1
 obtain⟨t0,t1,t2,t3,t4,tf⟩:=hs5.tcells
 obtain⟨n0,n1,n2,n3,nf⟩:=hs5.node_cells HP.out
 dsimp only at n0 n1 n2 n3 t2 t3 t4
 rw [uB.out]at t2
 rw [HL.out]at n0
 obtain⟨dg,dc,hdv,hdc1,hdc2⟩:=aD (Sat.own (hs5.focus HP.out) 2 rfl) (by show 0<m.kids.length;rw [HZ.out];simp)
 dsimp only at hdv
 rw [HZ.out]at hdv
 subst hdv
 have hkr:=hs5.kids_rd HP.out
 dsimp only at hkr
 have hcell:=bu (by rw [HZ.out]at hkr;rw [HZ.out];exact hkr) (show m.kids[0]?=some c0 by rw [HZ.out];rfl)
 clear hkr
 have tU:=B5 hs5
 clear hs5
 go_upto_region 10 with (fail)
 obtain⟨W6,hW6,hs6⟩:=(tU.out.set_root (c0:Int)).hide
 rw [←hW6]
 clear hW6 tU t0 t1 t2 t3 t4 tf n0 n1 n2 n3 nf hcell
 have HG:=B5 (jR (B:=B) (D:=D) (t:=t) (T:={ T1 with k:={ root:=(c0:Int),many:=T.k.many-1,depth:=T.k.depth } }) (i:=r) (List.getElem?_eq_some_iff.1 HM.out).1 wD.out.1 wD.out.2 ⟨_,_,_,u7.out,hs6⟩)
 clear hs6
 go_upto_region 11 with ((go_at_call 106;refine HG.out.mono ?_;rintro e7 w7 ⟨rfl,nv7,fv7,ns7,hns7,hs7⟩;obtain⟨t0,t1,t2,t3,t4,tf⟩:=hs7.tcells;have uv:=B5 hs7;have wZ:=B5 hns7;clear hs7 hns7;dsimp only [TM.give]at t4))
 have hw2:=xp.out
 go_wp2_with (fail)
 go_ret
 refine⟨rfl,nv7,fv7,ns7,wZ.out,?_⟩
 rw [show(T1.drop1 (c0:Int) r).k=({ root:=(c0:Int),many:=T.k.many-1,depth:=T.k.depth-1 }:Num) by unfold TM.drop1;rw [tK.out]]
 exact(uv.out.set_depth (T.k.depth-1)).drop
theorem nM {B w:World}{D:PH}{t r:Nat}{T T1:TM}{l:List HP}{k:Val}{m:NodeM}(hr:al k=true)(hrem:∀(w:World) (l:List HP),TreeA B D w t T l→Calls Tryz.prog 105 #[.pointer (some ⟨t,0,none⟩),.int .i64 r,k.v] w fun e w'=>e = .returned (.bool true)∧TreeA B D w' t T1 l)
  (hroot:T.k.root=(r:Int)) (hk1:T1.k=T.k) (hfit:T.k.fit) (hm:T1.nodes[r]?=some m) (hbig:T1.nodes.length≤1000000) (hfb:T1.free.length≤1000000) (hz:(m.leaf=true∧T.k.many≠1)∨(m.leaf=false∧m.kids.length≠1)) (h:TreeA B D w t T l) :
  Calls Tryz.prog 91 #[.pointer (some ⟨t,0,none⟩),k.v] w fun e w'=>e = .returned (.bool true)∧TreeA B D w' t T1.less l:=by
 obtain⟨nv,fv,ns,hns,hs⟩:=h
 obtain⟨f1,f2,f3,f4⟩:=hfit
 have tD:=B5 (hs.alloc #[.bool k.t,.int .i64 k.n,.string k.s] tV)
 have uk:=B5 hns
 have uB:=B5 hroot
 have HR:=B5 hr
 have wd:=B5 hrem
 have HM:=B5 hm
 have tK:=B5 hk1
 have wD:=B5 (And.intro hbig hfb)
 have hr0:¬((r:Int)<0):=by omega
 have hw1:IntKind.i64.wrap (T.k.many-1)=T.k.many-1:=bU _ (by omega) (by omega)
 have hw2:IntKind.i64.wrap (T.k.depth-1)=T.k.depth-1:=bU _ (by omega) (by omega)
 have tE:=B5 hw1
 have xp:=B5 hw2
 have HZ:=B5 hz
 clear hz
 clear hs hns hroot hr hrem hm hk1 hw1 hw2
 dsimp only [Val.v]
 go_enter Tryz.func91,Tryz.ntmps91
 go_upto_region 1 with (fail)
 obtain⟨W,hW,hs2⟩:=tD.out.hide
 rw [←hW]
 clear tD hW
 generalize w.heap.size=bk at hs2 ⊢
 obtain⟨t0,t1,t2,t3,t4,tf⟩:=hs2.tcells
 obtain⟨x0,x1,x2,xf⟩:=aT (Sat.blk hs2 4 rfl)
 rw [uB.out]at t2
 have tL:=B5 hs2
 clear hs2
 refine af [(0,false,11),(1,false,11),(2,false,11),(3,false,11),(4,false,11),(5,false,11),(6,false,11),(7,false,11),(8,false,11),(9,false,11),(10,false,11),(11,true,0),(12,false,21),(13,false,21),(14,false,21),(15,false,21),(16,false,21),(17,false,21),(18,false,21),(19,false,21),(20,false,21),(21,true,0),(22,false,999),(23,false,999)] (by kernel_rfl) (by kernel_rfl) ?_
 iterate 3 (refine ae rfl rfl (fun K hK=>?_);go_simp;refine hK _ ?_;clear hK K)
 iterate 5 (first|(refine aw rfl rfl ?_;simp only [Act.put,B6,B7,B8,B9,Ca,Cb])|(refine am rfl rfl (fun K hK=>?_);go_simp;refine hK _ ?_;clear hK K))
 iterate 2 (refine ae rfl rfl (fun K hK=>?_);go_simp;refine hK _ ?_;clear hK K)
 first|(refine aw rfl rfl ?_;simp only [Act.put,B6,B7,B8,B9,Ca,Cb])|(refine am rfl rfl (fun K hK=>?_);go_simp;refine hK _ ?_;clear hK K)
 refine ah rfl ?_
 refine aq rfl (fun K hK=>?_)
 go_simp
 refine(aJ k _).mono ?_
 rw [HR.out]
 rintro e1 w1 ⟨rfl,hk1⟩
 have tH:=B5 ((tL.out.drew).kept hk1)
 clear hk1 tL x0 x1 x2 xf t0 t1 t2 t3 t4 tf
 obtain⟨t0,t1,t2,t3,t4,tf⟩:=tH.out.tcells
 obtain⟨x0,x1,x2,xf⟩:=aT (Sat.blk tH.out 4 rfl)
 rw [uB.out]at t2
 have yn:=B5 (wd.out w1 _ ⟨_,_,_,uk.out,tH.out⟩)
 refine hK _ _ ?_
 clear hK K
 refine wpList_nil ?_
 refine And.intro ?_ ?_
 ·go_simp
 first|(refine aw rfl rfl ?_;simp only [Act.put,B6,B7,B8,B9,Ca,Cb])|(refine am rfl rfl (fun K hK=>?_);go_simp;refine hK _ ?_;clear hK K)
 iterate 2 (refine ae rfl rfl (fun K hK=>?_);go_simp;refine hK _ ?_;clear hK K)
 iterate 6 (first|(refine aw rfl rfl ?_;simp only [Act.put,B6,B7,B8,B9,Ca,Cb])|(refine am rfl rfl (fun K hK=>?_);go_simp;refine hK _ ?_;clear hK K))
 refine ah rfl ?_
 refine aq rfl (fun K hK=>?_)
 go_simp
 refine yn.out.mono ?_
 rintro e2 w2 ⟨rfl,nv2,fv2,ns2,hns2,hs2⟩
 rw [tK.out]at hs2
 have tP:=B5 hs2
 have u7:=B5 hns2
 clear hns2 x0 x1 x2 xf t0 t1 t2 t3 t4 tf
 obtain⟨t0,t1,t2,t3,t4,tf⟩:=hs2.tcells
 obtain⟨x0,x1,x2,xf⟩:=aT (Sat.blk hs2 4 rfl)
 rw [uB.out]at t2
 clear hs2
 refine hK _ _ ?_
 clear hK K
 refine wpList_nil ?_
 refine And.intro ?_ ?_
 ·go_simp
 first|(refine aw rfl rfl ?_;simp only [Act.put,B6,B7,B8,B9,Ca,Cb])|(refine am rfl rfl (fun K hK=>?_);go_simp;refine hK _ ?_;clear hK K)
 refine ae rfl rfl (fun K hK=>?_);go_simp;refine hK _ ?_;clear hK K
 refine ai ?_
 obtain⟨⟨kv,vv,dv⟩,hp⟩:=aI u7.out HM.out
 have hlt:=(List.getElem?_eq_some_iff.1 hp).1
 have hib:(r:Int)<(ns2.length:Int):=by omega
 have HP:=B5 hp
 obtain⟨g,c,rfl,_,hcm⟩:=tP.out.nv_some (by omega)
 unfold maxLen at hcm
 clear hp
 have hw1:=tE.out
 go_upto_region 4 with (fail)
 obtain⟨W5,hW5,hs5⟩:=(tP.out.set_many (T.k.many-1)).hide
 rw [←hW5]
 clear hW5 tP t0 t1 t2 t3 t4 tf x0 x1 x2 xf hw1
 obtain⟨t0,t1,t2,t3,t4,tf⟩:=hs5.tcells
 obtain⟨n0,n1,n2,n3,nf⟩:=hs5.node_cells HP.out
 dsimp only at n0 n1 n2 n3 t2 t3 t4
 rw [uB.out]at t2
 obtain⟨dO,dc,hdv⟩:=(hs5.focus HP.out).drop.drop.own_shape
 dsimp only at hdv
 subst hdv
 have tU:=B5 hs5
 clear hs5
 rcases HZ.out with ⟨hl,hz⟩|⟨hl,hz⟩
 ·rw [hl]at n0
  have hz0:(T.k.many-1 == 0)=false:=by simp;omega
  clear hl hz
  go_wp2_with (fail)
  go_ret
  refine⟨rfl,.slice (some ⟨g,0,none⟩) ns2.length c,fv2,ns2,u7.out,?_⟩
  rw [show T1.less.k=({ root:=T.k.root,many:=T.k.many-1,depth:=T.k.depth }:Num) by unfold TM.less;rw [tK.out]]
  exact tU.out.drop
 ·rw [hl]at n0
  have hz0:((m.kids.length:Int) == 1)=false:=by simp;omega
  clear hl hz
  go_wp2_with (fail)
  go_ret
  refine⟨rfl,.slice (some ⟨g,0,none⟩) ns2.length c,fv2,ns2,u7.out,?_⟩
  rw [show T1.less.k=({ root:=T.k.root,many:=T.k.many-1,depth:=T.k.depth }:Num) by unfold TM.less;rw [tK.out]]
  exact tU.out.drop
theorem TreeA.nil_of {B w:World}{D:PH}{t:Nat}{T:TM}{l:List HP}(h:TreeA B D w t T l)(hr:T.k.root<0):NilT w (.pointer (some ⟨t,0,none⟩)):=by
 obtain⟨nv,fv,ns,hns,hs⟩:=h
 exact .inr ⟨t,_,rfl,hs.tcells.2.2.1,hr⟩
end Go.Proofs.YtdobimafhbfkhaaGreat
