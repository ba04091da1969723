/- Joined texts: The tree: contract of fromLeft, at inner nodes (printed by genmend.py). The tree: contract of fromRight, at leaves (printed by genmend.py). The tree: contract of fromRight, at inner nodes (printed by genmend.py). -/
import Derived.Test.YtdobimafhbfkhaaGreatOT27
set_option maxHeartbeats 64000000
namespace Go.Proofs.YtdobimafhbfkhaaGreat
open Go.ChangeShapes Go.WideShapes Go.ChangeAt Go.RowKit
set_option maxRecDepth 100000
set_option linter.unusedSimpArgs false
theorem kE {B w:World}{D:PH}{t:Nat}{T:TM}{l:List HP}{i C a b q xd:Nat}{mi mx my:NodeM}{xk sk:Val}(hi:T.nodes[i]?=some mi)(hx:T.nodes[a]?=some mx)(hy:T.nodes[b]?=some my)(hia:i≠a)(hib:i≠b)(hab:a≠b)(hca:mi.kids[C]?=some a)(hcb:mi.kids[C+1]?=some b)(hkC:C<mi.keys.length)(hmb:mi.kids.length≤1000)(hlx:my.leaf=false)(hxl:mx.keys.length=q+1)(hxv:mx.kids.length=q+2)(hyv:my.kids.length≤1000)(hxb:q≤1000)(hyb:my.keys.length≤1000)
  (hxk:mx.keys[q]?=some xk) (hxvv:mx.kids[q+1]?=some xd) (hsk:mi.keys[C]?=some sk) (h:TreeA B D w t T l) :
  Calls Tryz.prog 132 #[.pointer (some ⟨t,0,none⟩),.int .i64 i,.int .i64 ((C+1:Nat):Int)] w fun e w'=>e = .returned (.tuple #[]) ∧
   TreeA B D w' t (T.tri i a b { mi with keys:=mi.keys.set C xk } { mx with keys:=mx.keys.take q,kids:=mx.kids.take (q+1) } { my with keys:=aU my.keys 0 sk,kids:=aU my.kids 0 xd }) l:=by
 obtain⟨nv,fv,ns,hns,hs⟩:=h
 obtain⟨⟨ikv,ivv,idv⟩,hpi⟩:=aH hns hi
 obtain⟨⟨xkv,xvv,xdv⟩,hpx⟩:=aH hns hx
 obtain⟨⟨ykv,yvv,ydv⟩,hpy⟩:=aH hns hy
 have hTr:Tri ns ns i a b _ _ _:=⟨hpi,hpx,hpy,fun _ _ _ _=>rfl,rfl,hia,hib,hab⟩
 obtain⟨lt1,lt2,lt3⟩:=hTr.lt
 obtain⟨g,cn,rfl,_,hcm⟩:=hs.nv_some (by omega)
 unfold maxLen at hcm
 have hclt:=(List.getElem?_eq_some_iff.1 hcb).1
 obtain⟨ikg,ikc,hikv,hikc,_⟩:=aE (Sat.own (hs.focus hpi) 0 rfl) (by show 0<mi.keys.length;omega)
 obtain⟨idg,idc,hidv,_,_⟩:=aE (Sat.own (hs.focus hpi) 2 rfl) (by show 0<mi.kids.length;omega)
 obtain⟨xkg,xkc,hxkv,hxkc,hxkc2⟩:=aE (Sat.own (hs.focus hpx) 0 rfl) (by show 0<mx.keys.length;omega)
 obtain⟨xdg,xdc,hxvv2,hxvc,hxvc2⟩:=aE (Sat.own (hs.focus hpx) 2 rfl) (by show 0<mx.kids.length;omega)
 obtain⟨yko,ykc,hykv⟩:=(hs.focus hpy).own_shape
 obtain⟨ydo,ydc,hyvv⟩:=(hs.focus hpy).drop.drop.own_shape
 dsimp only at hikv hidv hxkv hxvv2 hykv hyvv hikc hxkc hxvc
 rw [hxl]at hxkv hxkc
 rw [hxv]at hxvv2 hxvc
 subst hikv hidv hxkv hxvv2 hykv hyvv
 have hqkc:(q:Int)≤(xkc:Int):=by omega
 have hqvc:(q:Int)+1≤(xdc:Int):=by omega
 have hqd:(q:Int)+1<(q:Int)+2:=by omega
 generalize hN:ns.length=N at *
 have hib1:(i:Int)<(N:Int):=by omega
 have hab1:(a:Int)<(N:Int):=by omega
 have hbb1:(b:Int)<(N:Int):=by omega
 have hC1:(C:Int)<(mi.kids.length:Int):=by omega
 have hC2:(C:Int)+1<(mi.kids.length:Int):=by omega
 have hC3:(C:Int)<(mi.keys.length:Int):=by omega
 have hwC:IntKind.i64.wrap ((C:Int)+1-1)=(C:Int):=by rw [bV _ (by omega) (by omega)];omega
 have hwC0:IntKind.i64.wrap (C:Int)=(C:Int):=bV _ (by omega) (by omega)
 have hwq0:IntKind.i64.wrap (q:Int)=(q:Int):=bV _ (by omega) (by omega)
 have hwC1:IntKind.i64.wrap ((C:Int)+1)=(C:Int)+1:=bV _ (by omega) (by omega)
 have hwC2:IntKind.i64.wrap ((C:Int)+2)=(C:Int)+1+1:=by rw [bV _ (by omega) (by omega)];omega
 have hwq:IntKind.i64.wrap ((q:Int)+1-1)=(q:Int):=by rw [bV _ (by omega) (by omega)];omega
 have hwq1:IntKind.i64.wrap ((q:Int)+1)=(q:Int)+1:=bV _ (by omega) (by omega)
 have hqi:(q:Int)<(q:Int)+1:=by omega
 have hq01:0≤(q:Int)+1:=by omega
 have hC01:0≤(C:Int)+1:=by omega
 obtain⟨t0,t1,t2,t3,t4,tf⟩:=hs.tcells
 obtain⟨i0,i1,i2,i3,nf⟩:=hs.node_cells hTr.hi
 obtain⟨x0,x1,x2,x3,_⟩:=hs.node_cells hTr.ha
 obtain⟨y0,y1,y2,y3,_⟩:=hs.node_cells hTr.hb
 have hca1:=bI (hs.kids_rd hpi) hca
 have hcb1:=bI (hs.kids_rd hpi) hcb
 dsimp only at i0 i1 i2 i3 x0 x1 x2 x3 y0 y1 y2 y3 hca1 hcb1
 have HS:=CM hs
 have HT:=CM hTr
 have uL:=CM hns
 have wM:=CM hlx
 have HXL:=CM hxl
 have zj:=CM hxv
 have AP:=CM hxk
 have xU:=CM hxvv
 have wZ:=CM hsk
 clear hlx hxl hxv hxk hxvv hsk
 clear hs hTr hns hi hx hy hia hib hab hca hcb hpi hpx hpy hN
 push_cast
 go_enter Tryz.func132,Tryz.ntmps132
 go_upto_region 1 with (fail)
 go_quiet (fail)
 have hs1:=HS.out.kept ((Kept.refl (fun _=>False) w).drewN nq)
 obtain⟨W1,hW1⟩:∃W1,W1=w.drewN nq:=⟨_,rfl⟩
 rw [←hW1]at hs1 ⊢
 clear hW1 HS t0 t1 t2 t3 t4 tf i0 i1 i2 i3 nf x0 x1 x2 x3 y0 y1 y2 y3 hca1 hcb1
 obtain⟨i0,i1,i2,i3,nf⟩:=hs1.node_cells HT.out.hi
 obtain⟨x0,x1,x2,x3,_⟩:=hs1.node_cells HT.out.ha
 obtain⟨y0,y1,y2,y3,_⟩:=hs1.node_cells HT.out.hb
 dsimp only at i0 i1 i2 i3 x0 x1 x2 x3 y0 y1 y2 y3
 have uk:=CM hs1
 clear hs1
 rw [wM.out]at y0
 have hrk:=uk.out.keys_rd HT.out.hi
 dsimp only at hrk
 obtain⟨j0,j1,j2⟩:=aM hrk wZ.out
 simp only [Nat.zero_add,Nat.zero_mul]at j0 j1 j2
 clear hrk
 go_upto_region 8 with (fail)
 refine af [(0,false,17),(1,false,14),(2,false,14),(3,false,14),(4,false,14),(5,false,13),(6,false,13),(7,false,13),(8,false,13),(9,false,13),(10,false,13),(11,false,13),(12,false,13),(13,true,0),(14,true,0),(15,false,17),(16,false,17),(17,true,0)] (by kernel_rfl) (by kernel_rfl) ?_
 iterate 13 (refine ae rfl rfl (fun K hK=>?_);go_simp;refine hK _ ?_;clear hK K)
 refine ag rfl ?_
 refine wpList_plain rfl (fun K hK=>?_)
 go_simp
 refine hK _ _ ?_
 clear hK K
 refine wpList_nil ?_
 have hal:=(uk.out.alloc #[.bool sk.t,.int .i64 sk.n,.string sk.s] tV).drew
 obtain⟨W2,hW2,hal⟩:=hal.hide
 rw [←hW2]
 generalize W1.heap.size=bx2 at hal ⊢
 clear hW2 uk j0 j1 j2 i0 i1 i2 i3 nf x0 x1 x2 x3 y0 y1 y2 y3
 obtain⟨i0,i1,i2,i3,nf⟩:=hal.node_cells HT.out.hi
 obtain⟨x0,x1,x2,x3,_⟩:=hal.node_cells HT.out.ha
 obtain⟨y0,y1,y2,y3,_⟩:=hal.node_cells HT.out.hb
 dsimp only at i0 i1 i2 i3 x0 x1 x2 x3 y0 y1 y2 y3
 have hrk:=hal.keys_rd HT.out.hi
 dsimp only at hrk
 obtain⟨j0,j1,j2⟩:=aM hrk wZ.out
 simp only [Nat.zero_add,Nat.zero_mul]at j0 j1 j2
 clear hrk
 have vd:=CM hal
 clear hal
 refine And.intro ?_ ?_
 ·go_simp
 refine ag rfl ?_
 refine au rfl (fun K hK=>?_)
 go_simp
 refine(TreeS.ins_keys (q:=0) (x:=sk) vd.out HT.out.hb (Nat.zero_le _) (by show(my.keys.length+1)*32≤_;omega)).mono ?_
 rintro e2 w2 ⟨o2,c2,rfl,y1',nf',hs2⟩
 obtain⟨ns2,hT2,hs2⟩:∃ns2,Tri ns ns2 i a b (⟨.slice (some ⟨ikg,0,none⟩) mi.keys.length ikc,ivv,.slice (some ⟨idg,0,none⟩) mi.kids.length idc⟩,mi) (⟨.slice (some ⟨xkg,0,none⟩) (q+1) xkc,xvv,.slice (some ⟨xdg,0,none⟩) (q+2) xdc⟩,mx) (⟨.slice o2 (my.keys.length+1) c2,yvv,.slice ydo my.kids.length ydc⟩,{ my with keys:=aU my.keys 0 sk })∧TreeS B D _ t (.slice (some ⟨g,0,none⟩) N cn) fv ns2 T.free T.k l:=⟨_,HT.out.set_b _,hs2⟩
 have ur:=CM hs2
 have uJ:=CM hT2
 clear hs2 hT2 vd j0 j1 j2 i0 i1 i2 i3 nf x0 x1 x2 x3 y0 y1 y2 y3
 refine hK _ _ ?_
 clear hK K
 refine wpList_nil ?_
 refine And.intro ?_ ?_
 ·go_simp
 iterate 2 (refine ae rfl rfl (fun K hK=>?_);go_simp;refine hK _ ?_;clear hK K)
 refine ag rfl ?_
 refine wpList_plain rfl (fun K hK=>?_)
 go_simp
 refine hK _ _ ?_
 clear hK K
 refine wpList_nil ?_
 refine And.intro ?_ ?_
 ·go_simp
 refine ah ?_
 go_upto_region 9 with (fail)
 obtain⟨V2,hV2,hs2⟩:=ur.out.hide
 rw [←hV2]
 clear hV2 ur y1' nf'
 obtain⟨i0,i1,i2,i3,nf⟩:=hs2.node_cells uJ.out.hi
 obtain⟨x0,x1,x2,x3,_⟩:=hs2.node_cells uJ.out.ha
 obtain⟨y0,y1,y2,y3,_⟩:=hs2.node_cells uJ.out.hb
 dsimp only at i0 i1 i2 i3 x0 x1 x2 x3 y0 y1 y2 y3
 have vA:=CM hs2
 clear hs2
 have hrk:=vA.out.kids_rd uJ.out.ha
 dsimp only at hrk
 rw [zj.out]at hrk
 have v0:=iT hrk xU.out
 clear hrk
 go_upto_region 9 with (fail)
 refine af [(0,false,17),(1,false,14),(2,false,14),(3,false,14),(4,false,14),(5,false,13),(6,false,13),(7,false,13),(8,false,13),(9,false,13),(10,false,13),(11,false,13),(12,false,13),(13,true,0),(14,true,0),(15,false,17),(16,false,17),(17,true,0)] (by kernel_rfl) (by kernel_rfl) ?_
 iterate 13 (refine ae rfl rfl (fun K hK=>?_);go_simp;refine hK _ ?_;clear hK K)
 refine ag rfl ?_
 refine wpList_plain rfl (fun K hK=>?_)
 go_simp
 refine hK _ _ ?_
 clear hK K
 refine wpList_nil ?_
 have hal:=(vA.out.alloc #[.int .i64 (xd:Int)] tI).drew
 obtain⟨W3,hW3,hal⟩:=hal.hide
 rw [←hW3]
 generalize V2.heap.size=bx3 at hal ⊢
 clear hW3 vA v0 i0 i1 i2 i3 nf x0 x1 x2 x3 y0 y1 y2 y3
 obtain⟨i0,i1,i2,i3,nf⟩:=hal.node_cells uJ.out.hi
 obtain⟨x0,x1,x2,x3,_⟩:=hal.node_cells uJ.out.ha
 obtain⟨y0,y1,y2,y3,_⟩:=hal.node_cells uJ.out.hb
 dsimp only at i0 i1 i2 i3 x0 x1 x2 x3 y0 y1 y2 y3
 have hrk:=hal.kids_rd uJ.out.ha
 dsimp only at hrk
 rw [zj.out]at hrk
 have v0:=iT hrk xU.out
 clear hrk
 have vd:=CM hal
 clear hal
 refine And.intro ?_ ?_
 ·go_simp
 refine ag rfl ?_
 refine au rfl (fun K hK=>?_)
 go_simp
 refine(TreeS.ins_kids (q:=0) (x:=xd) vd.out uJ.out.hb (Nat.zero_le _) (by show(my.kids.length+1)*8≤_;omega)).mono ?_
 rintro e3 w3 ⟨o3,c3,rfl,y1',nf',hs3⟩
 obtain⟨ns3,hT3,hs3⟩:∃ns3,Tri ns ns3 i a b (⟨.slice (some ⟨ikg,0,none⟩) mi.keys.length ikc,ivv,.slice (some ⟨idg,0,none⟩) mi.kids.length idc⟩,mi) (⟨.slice (some ⟨xkg,0,none⟩) (q+1) xkc,xvv,.slice (some ⟨xdg,0,none⟩) (q+2) xdc⟩,mx) (⟨.slice o2 (my.keys.length+1) c2,yvv,.slice o3 (my.kids.length+1) c3⟩,{ my with keys:=aU my.keys 0 sk,kids:=aU my.kids 0 xd })∧TreeS B D _ t (.slice (some ⟨g,0,none⟩) N cn) fv ns3 T.free T.k l:=⟨_,uJ.out.set_b _,hs3⟩
 have ut:=CM hs3
 have uM:=CM hT3
 clear hs3 hT3 vd v0 i0 i1 i2 i3 nf x0 x1 x2 x3 y0 y1 y2 y3
 refine hK _ _ ?_
 clear hK K
 refine wpList_nil ?_
 refine And.intro ?_ ?_
 ·go_simp
 iterate 2 (refine ae rfl rfl (fun K hK=>?_);go_simp;refine hK _ ?_;clear hK K)
 refine ag rfl ?_
 refine wpList_plain rfl (fun K hK=>?_)
 go_simp
 refine hK _ _ ?_
 clear hK K
 refine wpList_nil ?_
 refine And.intro ?_ ?_
 ·go_simp
 refine ah ?_
 go_upto_region 10 with (fail)
 obtain⟨V3,hV3,hs3⟩:=ut.out.hide
 rw [←hV3]
 clear hV3 ut y1' nf'
 obtain⟨i0,i1,i2,i3,nf⟩:=hs3.node_cells uM.out.hi
 obtain⟨x0,x1,x2,x3,_⟩:=hs3.node_cells uM.out.ha
 obtain⟨y0,y1,y2,y3,_⟩:=hs3.node_cells uM.out.hb
 dsimp only at i0 i1 i2 i3 x0 x1 x2 x3 y0 y1 y2 y3
 have vS:=CM hs3
 clear hs3
 have hro:=Sat.own (vS.out.focus uM.out.hi) 0 rfl
 dsimp only at hro
 obtain⟨_,_,hrr⟩:=hro.row
 have pf:=hrr.frozen
 clear hro hrr
 have hrk:=vS.out.keys_rd uM.out.ha
 dsimp only at hrk
 rw [HXL.out]at hrk
 obtain⟨k0,k1,k2⟩:=aM hrk AP.out
 simp only [Nat.zero_add,Nat.zero_mul]at k0 k1 k2
 clear hrk
 have hrk:=vS.out.keys_rd uM.out.hi
 dsimp only at hrk
 obtain⟨j0,j1,j2⟩:=aM hrk wZ.out
 simp only [Nat.zero_add,Nat.zero_mul]at j0 j1 j2
 clear hrk
 go_upto_region 10 with (fail)
 have hs4:=(vS.out.key_set uM.out.hi rfl C xk (by show C<mi.keys.length;omega)).drew
 obtain⟨ns4,hT4,hs4⟩:∃ns4,Tri ns ns4 i a b (⟨.slice (some ⟨ikg,0,none⟩) mi.keys.length ikc,ivv,.slice (some ⟨idg,0,none⟩) mi.kids.length idc⟩,{ mi with keys:=mi.keys.set C xk }) (⟨.slice (some ⟨xkg,0,none⟩) (q+1) xkc,xvv,.slice (some ⟨xdg,0,none⟩) (q+2) xdc⟩,mx) (⟨.slice o2 (my.keys.length+1) c2,yvv,.slice o3 (my.kids.length+1) c3⟩,{ my with keys:=aU my.keys 0 sk,kids:=aU my.kids 0 xd })∧TreeS B D _ t (.slice (some ⟨g,0,none⟩) N cn) fv ns4 T.free T.k l:=⟨_,uM.out.set_i _,hs4⟩
 have uy:=CM hs4
 have uZ:=CM hT4
 clear hs4 hT4
 refine af [(0,false,14),(1,false,14),(2,false,14),(3,false,14),(4,false,14),(5,false,14),(6,false,14),(7,false,14),(8,false,14),(9,false,14),(10,false,14),(11,false,14),(12,false,14),(13,false,14),(14,true,0)] (by kernel_rfl) (by kernel_rfl) ?_
 iterate 14 (refine ae rfl rfl (fun K hK=>?_);go_simp;refine hK _ ?_;clear hK K)
 refine ag rfl ?_
 refine wpList_plain rfl (fun K hK=>?_)
 go_simp
 refine hK _ _ ?_
 clear hK K
 refine wpList_nil ?_
 refine And.intro ?_ ?_
 ·go_simp
 refine ah ?_
 clear vS k0 k1 k2 j0 j1 j2 pf i0 i1 i2 i3 nf x0 x1 x2 x3 y0 y1 y2 y3
 go_upto_region 11 with (fail)
 obtain⟨V4,hV4,hs4⟩:=uy.out.hide
 rw [←hV4]
 clear hV4 uy
 obtain⟨i0,i1,i2,i3,nf⟩:=hs4.node_cells uZ.out.hi
 obtain⟨x0,x1,x2,x3,_⟩:=hs4.node_cells uZ.out.ha
 obtain⟨y0,y1,y2,y3,_⟩:=hs4.node_cells uZ.out.hb
 dsimp only at i0 i1 i2 i3 x0 x1 x2 x3 y0 y1 y2 y3
 have v4:=CM hs4
 clear hs4
 have hs5:=TreeS.cut_kids (m:=(q+1)) v4.out uZ.out.ha rfl (by show q+1≤mx.kids.length;rw [zj.out];omega)
 go_upto_region 12 with (fail)
 obtain⟨ns5,hT5,hs5⟩:∃ns5,Tri ns ns5 i a b (⟨.slice (some ⟨ikg,0,none⟩) mi.keys.length ikc,ivv,.slice (some ⟨idg,0,none⟩) mi.kids.length idc⟩,{ mi with keys:=mi.keys.set C xk }) (⟨.slice (some ⟨xkg,0,none⟩) (q+1) xkc,xvv,.slice (some ⟨xdg,0,none⟩) (q+1) (q+1)⟩,{ mx with kids:=mx.kids.take (q+1) }) (⟨.slice o2 (my.keys.length+1) c2,yvv,.slice o3 (my.kids.length+1) c3⟩,{ my with keys:=aU my.keys 0 sk,kids:=aU my.kids 0 xd })∧TreeS B D _ t (.slice (some ⟨g,0,none⟩) N cn) fv ns5 T.free T.k l:=⟨_,uZ.out.set_a _,hs5⟩
 have uR:=CM hT5
 clear hT5
 obtain⟨V5,hV5,hs5⟩:=hs5.hide
 rw [←hV5]
 clear hV5 v4 i0 i1 i2 i3 nf x0 x1 x2 x3 y0 y1 y2 y3
 obtain⟨i0,i1,i2,i3,nf⟩:=hs5.node_cells uR.out.hi
 obtain⟨x0,x1,x2,x3,_⟩:=hs5.node_cells uR.out.ha
 obtain⟨y0,y1,y2,y3,_⟩:=hs5.node_cells uR.out.hb
 dsimp only at i0 i1 i2 i3 x0 x1 x2 x3 y0 y1 y2 y3
 have wt:=CM hs5
 clear hs5
 have hs6:=TreeS.cut_keys (m:=q) wt.out uR.out.ha rfl (by show q≤mx.keys.length;rw [HXL.out];omega)
 go_wp2_with (fail)
 obtain⟨ns6,hT6,hs6⟩:∃ns6,Tri ns ns6 i a b (⟨.slice (some ⟨ikg,0,none⟩) mi.keys.length ikc,ivv,.slice (some ⟨idg,0,none⟩) mi.kids.length idc⟩,{ mi with keys:=mi.keys.set C xk }) (⟨.slice (some ⟨xkg,0,none⟩) q q,xvv,.slice (some ⟨xdg,0,none⟩) (q+1) (q+1)⟩,{ mx with kids:=mx.kids.take (q+1),keys:=mx.keys.take q }) (⟨.slice o2 (my.keys.length+1) c2,yvv,.slice o3 (my.kids.length+1) c3⟩,{ my with keys:=aU my.keys 0 sk,kids:=aU my.kids 0 xd })∧TreeS B D _ t (.slice (some ⟨g,0,none⟩) N cn) fv ns6 T.free T.k l:=⟨_,uR.out.set_a _,hs6⟩
 have wu:=CM hT6
 clear hT6
 go_end0
 exact⟨rfl,_,_,_,wu.out.done uL.out,hs6⟩
theorem kU {B w:World}{D:PH}{t:Nat}{T:TM}{l:List HP}{i C a b q:Nat}{mi mx my:NodeM}{yk sk yk1:Val}{yd:VT}(hi:T.nodes[i]?=some mi)(hx:T.nodes[a]?=some mx)(hy:T.nodes[b]?=some my)(hia:i≠a)(hib:i≠b)(hab:a≠b)(hca:mi.kids[C]?=some a)(hcb:mi.kids[C+1]?=some b)(hkC:C<mi.keys.length)(hmb:mi.kids.length≤1000)(hlx:mx.leaf=true)(hyl:my.keys.length=q+1)(hyv:my.vals.length=q+1)(hxb:q≤1000)(hxkb:mx.keys.length≤1000)(hxdb:mx.vals.length≤1000)
  (hyk:my.keys[0]?=some yk) (hyd:my.vals[0]?=some yd) (hsk:mi.keys[C]?=some sk) (hyk1:my.keys[1]?=some yk1) (h:TreeA B D w t T l) :
  Calls Tryz.prog 133 #[.pointer (some ⟨t,0,none⟩),.int .i64 i,.int .i64 (C:Int)] w fun e w'=>e = .returned (.tuple #[]) ∧
   TreeA B D w' t (T.tri i a b { mi with keys:=mi.keys.set C yk1 } { mx with keys:=mx.keys ++ [yk],vals:=mx.vals ++ [yd] } { my with keys:=aQ my.keys 0,vals:=aQ my.vals 0 }) l:=by
 obtain⟨nv,fv,ns,hns,hs⟩:=h
 obtain⟨⟨ikv,ivv,idv⟩,hpi⟩:=aH hns hi
 obtain⟨⟨xkv,xvv,xdv⟩,hpx⟩:=aH hns hx
 obtain⟨⟨ykv,yvv,ydv⟩,hpy⟩:=aH hns hy
 have hTr:Tri ns ns i a b _ _ _:=⟨hpi,hpx,hpy,fun _ _ _ _=>rfl,rfl,hia,hib,hab⟩
 obtain⟨lt1,lt2,lt3⟩:=hTr.lt
 obtain⟨g,cn,rfl,_,hcm⟩:=hs.nv_some (by omega)
 unfold maxLen at hcm
 have hclt:=(List.getElem?_eq_some_iff.1 hcb).1
 obtain⟨ikg,ikc,hikv,hikc,_⟩:=aE (Sat.own (hs.focus hpi) 0 rfl) (by show 0<mi.keys.length;omega)
 obtain⟨idg,idc,hidv,_,_⟩:=aE (Sat.own (hs.focus hpi) 2 rfl) (by show 0<mi.kids.length;omega)
 obtain⟨ykg,ykc,hykv,hykc,hykc2⟩:=aE (Sat.own (hs.focus hpy) 0 rfl) (by show 0<my.keys.length;omega)
 obtain⟨ydg,ydc,hyvv,hydc,hydc2⟩:=aE (Sat.own (hs.focus hpy) 1 rfl) (by show 0<my.vals.length;omega)
 obtain⟨xko,xkc,hxkv⟩:=(hs.focus hpx).own_shape
 obtain⟨xdo,xdc,hxvv⟩:=(hs.focus hpx).drop.own_shape
 dsimp only at hikv hidv hykv hyvv hxkv hxvv hikc hykc hydc
 rw [hyl]at hykv hykc
 rw [hyv]at hyvv hydc
 subst hikv hidv hykv hyvv hxkv hxvv
 have hq0:(0:Int)<(q:Int)+1:=by omega
 have hq02:(0:Int)<(q:Int)+2:=by omega
 generalize hN:ns.length=N at *
 have hib1:(i:Int)<(N:Int):=by omega
 have hab1:(a:Int)<(N:Int):=by omega
 have hbb1:(b:Int)<(N:Int):=by omega
 have hC1:(C:Int)<(mi.kids.length:Int):=by omega
 have hC2:(C:Int)+1<(mi.kids.length:Int):=by omega
 have hC3:(C:Int)<(mi.keys.length:Int):=by omega
 have hwC:IntKind.i64.wrap ((C:Int)+1-1)=(C:Int):=by rw [bV _ (by omega) (by omega)];omega
 have hwC0:IntKind.i64.wrap (C:Int)=(C:Int):=bV _ (by omega) (by omega)
 have hwq0:IntKind.i64.wrap (q:Int)=(q:Int):=bV _ (by omega) (by omega)
 have hwC1:IntKind.i64.wrap ((C:Int)+1)=(C:Int)+1:=bV _ (by omega) (by omega)
 have hwC2:IntKind.i64.wrap ((C:Int)+2)=(C:Int)+1+1:=by rw [bV _ (by omega) (by omega)];omega
 have hwq:IntKind.i64.wrap ((q:Int)+1-1)=(q:Int):=by rw [bV _ (by omega) (by omega)];omega
 have hwq1:IntKind.i64.wrap ((q:Int)+1)=(q:Int)+1:=bV _ (by omega) (by omega)
 have hqi:(q:Int)<(q:Int)+1:=by omega
 have hq01:0≤(q:Int)+1:=by omega
 have hC01:0≤(C:Int)+1:=by omega
 obtain⟨t0,t1,t2,t3,t4,tf⟩:=hs.tcells
 obtain⟨i0,i1,i2,i3,nf⟩:=hs.node_cells hTr.hi
 obtain⟨x0,x1,x2,x3,_⟩:=hs.node_cells hTr.ha
 obtain⟨y0,y1,y2,y3,_⟩:=hs.node_cells hTr.hb
 have hca1:=bI (hs.kids_rd hpi) hca
 have hcb1:=bI (hs.kids_rd hpi) hcb
 dsimp only at i0 i1 i2 i3 x0 x1 x2 x3 y0 y1 y2 y3 hca1 hcb1
 have HS:=CM hs
 have HT:=CM hTr
 have uL:=CM hns
 have wM:=CM hlx
 have yy:=CM hyl
 have wU:=CM hyv
 have yl:=CM hyk
 have Ag:=CM hyd
 have wZ:=CM hsk
 have Ah:=CM hyk1
 clear hlx hyl hyv hyk hyd hsk hyk1
 clear hs hTr hns hi hx hy hia hib hab hca hcb hpi hpx hpy hN
 push_cast
 go_enter Tryz.func133,Tryz.ntmps133
 go_upto_region 1 with (fail)
 go_quiet (fail)
 have hs1:=HS.out.kept ((Kept.refl (fun _=>False) w).drewN nq)
 obtain⟨W1,hW1⟩:∃W1,W1=w.drewN nq:=⟨_,rfl⟩
 rw [←hW1]at hs1 ⊢
 clear hW1 HS t0 t1 t2 t3 t4 tf i0 i1 i2 i3 nf x0 x1 x2 x3 y0 y1 y2 y3 hca1 hcb1
 obtain⟨i0,i1,i2,i3,nf⟩:=hs1.node_cells HT.out.hi
 obtain⟨x0,x1,x2,x3,_⟩:=hs1.node_cells HT.out.ha
 obtain⟨y0,y1,y2,y3,_⟩:=hs1.node_cells HT.out.hb
 dsimp only at i0 i1 i2 i3 x0 x1 x2 x3 y0 y1 y2 y3
 have uk:=CM hs1
 clear hs1
 rw [wM.out]at x0
 have hrk:=uk.out.keys_rd HT.out.hb
 dsimp only at hrk
 rw [yy.out]at hrk
 obtain⟨k0,k1,k2⟩:=aM hrk yl.out
 simp only [Nat.zero_add,Nat.zero_mul]at k0 k1 k2
 clear hrk
 go_upto_region 3 with (fail)
 refine af [(0,false,15),(1,false,12),(2,false,12),(3,false,12),(4,false,12),(5,false,11),(6,false,11),(7,false,11),(8,false,11),(9,false,11),(10,false,11),(11,true,0),(12,true,0),(13,false,15),(14,false,15),(15,true,0)] (by kernel_rfl) (by kernel_rfl) ?_
 iterate 11 (refine ae rfl rfl (fun K hK=>?_);go_simp;refine hK _ ?_;clear hK K)
 refine ag rfl ?_
 refine wpList_plain rfl (fun K hK=>?_)
 go_simp
 refine hK _ _ ?_
 clear hK K
 refine wpList_nil ?_
 have hal:=(uk.out.alloc #[.bool yk.t,.int .i64 yk.n,.string yk.s] tV).drew
 have hrb:=kM (size:=3) (cs:=Val.cells yk) (Sat.blk hal 4 rfl) rfl
 have hal2:=hal.drop
 obtain⟨W2,hW2,hal2⟩:=hal2.hide
 rw [←hW2]at hrb ⊢
 generalize W1.heap.size=bx2 at hrb ⊢
 clear hal hW2 uk k0 k1 k2 i0 i1 i2 i3 nf x0 x1 x2 x3 y0 y1 y2 y3
 obtain⟨i0,i1,i2,i3,nf⟩:=hal2.node_cells HT.out.hi
 obtain⟨x0,x1,x2,x3,_⟩:=hal2.node_cells HT.out.ha
 obtain⟨y0,y1,y2,y3,_⟩:=hal2.node_cells HT.out.hb
 dsimp only at i0 i1 i2 i3 x0 x1 x2 x3 y0 y1 y2 y3
 have hrk:=hal2.keys_rd HT.out.hb
 dsimp only at hrk
 rw [yy.out]at hrk
 obtain⟨k0,k1,k2⟩:=aM hrk yl.out
 simp only [Nat.zero_add,Nat.zero_mul]at k0 k1 k2
 clear hrk
 have vd:=CM hal2
 have wo:=CM hrb
 clear hal2 hrb
 refine And.intro ?_ ?_
 ·go_simp
 refine ag rfl ?_
 refine dl rfl _ _ rfl (new:=[yk]) vd.out HT.out.ha rfl rfl (by rw [List.flatMap_singleton];exact wo.out) (by show mx.keys.length+1≤10000;omega) ?_
 intro o2 c2 w2 y1' nf' hs2
 rw [List.length_singleton]at hs2
 obtain⟨ns2,hT2,hs2⟩:∃ns2,Tri ns ns2 i a b (⟨.slice (some ⟨ikg,0,none⟩) mi.keys.length ikc,ivv,.slice (some ⟨idg,0,none⟩) mi.kids.length idc⟩,mi) (⟨.slice o2 (mx.keys.length+1) c2,.slice xdo mx.vals.length xdc,xdv⟩,{ mx with keys:=mx.keys ++ [yk] }) (⟨.slice (some ⟨ykg,0,none⟩) (q+1) ykc,.slice (some ⟨ydg,0,none⟩) (q+1) ydc,ydv⟩,my)∧TreeS B D _ t (.slice (some ⟨g,0,none⟩) N cn) fv ns2 T.free T.k l:=⟨_,HT.out.set_a _,hs2⟩
 have ur:=CM hs2
 have uJ:=CM hT2
 clear hs2 hT2 vd wo k0 k1 k2 i0 i1 i2 i3 nf x0 x1 x2 x3 y0 y1 y2 y3
 refine wpList_nil ?_
 refine And.intro ?_ ?_
 ·go_simp
 iterate 2 (refine ae rfl rfl (fun K hK=>?_);go_simp;refine hK _ ?_;clear hK K)
 refine ag rfl ?_
 refine wpList_plain rfl (fun K hK=>?_)
 go_simp
 refine hK _ _ ?_
 clear hK K
 refine wpList_nil ?_
 refine And.intro ?_ ?_
 ·go_simp
 refine ah ?_
 go_upto_region 4 with (fail)
 obtain⟨V2,hV2,hs2⟩:=ur.out.hide
 rw [←hV2]
 clear hV2 ur y1' nf'
 obtain⟨i0,i1,i2,i3,nf⟩:=hs2.node_cells uJ.out.hi
 obtain⟨x0,x1,x2,x3,_⟩:=hs2.node_cells uJ.out.ha
 obtain⟨y0,y1,y2,y3,_⟩:=hs2.node_cells uJ.out.hb
 dsimp only at i0 i1 i2 i3 x0 x1 x2 x3 y0 y1 y2 y3
 have vA:=CM hs2
 clear hs2
 have hrk:=vA.out.vals_rd uJ.out.hb
 dsimp only at hrk
 rw [wU.out]at hrk
 have v0:=hF hrk Ag.out
 simp only [Nat.zero_add,Nat.zero_mul]at v0
 clear hrk
 go_upto_region 4 with (fail)
 refine af [(0,false,15),(1,false,12),(2,false,12),(3,false,12),(4,false,12),(5,false,11),(6,false,11),(7,false,11),(8,false,11),(9,false,11),(10,false,11),(11,true,0),(12,true,0),(13,false,15),(14,false,15),(15,true,0)] (by kernel_rfl) (by kernel_rfl) ?_
 iterate 11 (refine ae rfl rfl (fun K hK=>?_);go_simp;refine hK _ ?_;clear hK K)
 refine ag rfl ?_
 refine wpList_plain rfl (fun K hK=>?_)
 go_simp
 refine hK _ _ ?_
 clear hK K
 refine wpList_nil ?_
 have hal:=(vA.out.alloc #[.slice yd.ro yd.rn yd.rc] tW).drew
 have hrb:=kM (size:=1) (cs:=dE yd) (Sat.blk hal 4 rfl) rfl
 have hal2:=hal.drop
 obtain⟨W3,hW3,hal2⟩:=hal2.hide
 rw [←hW3]at hrb ⊢
 generalize V2.heap.size=bx3 at hrb ⊢
 clear hal hW3 vA v0 i0 i1 i2 i3 nf x0 x1 x2 x3 y0 y1 y2 y3
 obtain⟨i0,i1,i2,i3,nf⟩:=hal2.node_cells uJ.out.hi
 obtain⟨x0,x1,x2,x3,_⟩:=hal2.node_cells uJ.out.ha
 obtain⟨y0,y1,y2,y3,_⟩:=hal2.node_cells uJ.out.hb
 dsimp only at i0 i1 i2 i3 x0 x1 x2 x3 y0 y1 y2 y3
 have hrk:=hal2.vals_rd uJ.out.hb
 dsimp only at hrk
 rw [wU.out]at hrk
 have v0:=hF hrk Ag.out
 simp only [Nat.zero_add,Nat.zero_mul]at v0
 clear hrk
 have vd:=CM hal2
 have wo:=CM hrb
 clear hal2 hrb
 refine And.intro ?_ ?_
 ·go_simp
 refine ag rfl ?_
 refine er rfl _ _ rfl (new:=[yd]) vd.out uJ.out.ha rfl rfl (by rw [List.flatMap_singleton];exact wo.out) (by show mx.vals.length+1≤10000;omega) ?_
 intro o3 c3 w3 y1' nf' hs3
 rw [List.length_singleton]at hs3
 obtain⟨ns3,hT3,hs3⟩:∃ns3,Tri ns ns3 i a b (⟨.slice (some ⟨ikg,0,none⟩) mi.keys.length ikc,ivv,.slice (some ⟨idg,0,none⟩) mi.kids.length idc⟩,mi) (⟨.slice o2 (mx.keys.length+1) c2,.slice o3 (mx.vals.length+1) c3,xdv⟩,{ mx with keys:=mx.keys ++ [yk],vals:=mx.vals ++ [yd] }) (⟨.slice (some ⟨ykg,0,none⟩) (q+1) ykc,.slice (some ⟨ydg,0,none⟩) (q+1) ydc,ydv⟩,my)∧TreeS B D _ t (.slice (some ⟨g,0,none⟩) N cn) fv ns3 T.free T.k l:=⟨_,uJ.out.set_a _,hs3⟩
 have ut:=CM hs3
 have uM:=CM hT3
 clear hs3 hT3 vd wo v0 i0 i1 i2 i3 nf x0 x1 x2 x3 y0 y1 y2 y3
 refine wpList_nil ?_
 refine And.intro ?_ ?_
 ·go_simp
 iterate 2 (refine ae rfl rfl (fun K hK=>?_);go_simp;refine hK _ ?_;clear hK K)
 refine ag rfl ?_
 refine wpList_plain rfl (fun K hK=>?_)
 go_simp
 refine hK _ _ ?_
 clear hK K
 refine wpList_nil ?_
 refine And.intro ?_ ?_
 ·go_simp
 refine ah ?_
 go_upto_region 5 with (fail)
 obtain⟨V3,hV3,hs3⟩:=ut.out.hide
 rw [←hV3]
 clear hV3 ut y1' nf'
 obtain⟨i0,i1,i2,i3,nf⟩:=hs3.node_cells uM.out.hi
 obtain⟨x0,x1,x2,x3,_⟩:=hs3.node_cells uM.out.ha
 obtain⟨y0,y1,y2,y3,_⟩:=hs3.node_cells uM.out.hb
 dsimp only at i0 i1 i2 i3 x0 x1 x2 x3 y0 y1 y2 y3
 have vS:=CM hs3
 clear hs3
 go_upto_region 6 with ((go_at_call 120;refine(TreeS.del_vals (q:=0) (n:=q) vS.out uM.out.hb wU.out (Nat.zero_le _)).mono ?_;rintro e4 w4 ⟨o4,c4,rfl,y1',nf',hs4⟩;have BT:=CM hs4;clear hs4 i0 i1 i2 i3 nf x0 x1 x2 x3 y0 y1 y2 y3))
 obtain⟨ns4,hT4,hs4⟩:∃ns4,Tri ns ns4 i a b (⟨.slice (some ⟨ikg,0,none⟩) mi.keys.length ikc,ivv,.slice (some ⟨idg,0,none⟩) mi.kids.length idc⟩,mi) (⟨.slice o2 (mx.keys.length+1) c2,.slice o3 (mx.vals.length+1) c3,xdv⟩,{ mx with keys:=mx.keys ++ [yk],vals:=mx.vals ++ [yd] }) (⟨.slice (some ⟨ykg,0,none⟩) (q+1) ykc,.slice o4 q c4,ydv⟩,{ my with vals:=aQ my.vals 0 })∧TreeS B D _ t (.slice (some ⟨g,0,none⟩) N cn) fv ns4 T.free T.k l:=⟨_,uM.out.set_b _,BT.out⟩
 have uZ:=CM hT4
 clear hT4
 obtain⟨V4,hV4,hs4⟩:=hs4.hide
 rw [←hV4]
 clear hV4 vS BT y1' nf'
 obtain⟨i0,i1,i2,i3,nf⟩:=hs4.node_cells uZ.out.hi
 obtain⟨x0,x1,x2,x3,_⟩:=hs4.node_cells uZ.out.ha
 obtain⟨y0,y1,y2,y3,_⟩:=hs4.node_cells uZ.out.hb
 dsimp only at i0 i1 i2 i3 x0 x1 x2 x3 y0 y1 y2 y3
 have v4:=CM hs4
 clear hs4
 go_upto_region 7 with ((go_at_call 119;refine(TreeS.del_keys (q:=0) (n:=q) v4.out uZ.out.hb yy.out (Nat.zero_le _)).mono ?_;rintro e5 w5 ⟨o5,c5,rfl,y1',nf',hs5⟩;have yM:=CM hs5;clear hs5 i0 i1 i2 i3 nf x0 x1 x2 x3 y0 y1 y2 y3))
 obtain⟨ns5,hT5,hs5⟩:∃ns5,Tri ns ns5 i a b (⟨.slice (some ⟨ikg,0,none⟩) mi.keys.length ikc,ivv,.slice (some ⟨idg,0,none⟩) mi.kids.length idc⟩,mi) (⟨.slice o2 (mx.keys.length+1) c2,.slice o3 (mx.vals.length+1) c3,xdv⟩,{ mx with keys:=mx.keys ++ [yk],vals:=mx.vals ++ [yd] }) (⟨.slice o5 q c5,.slice o4 q c4,ydv⟩,{ my with vals:=aQ my.vals 0,keys:=aQ my.keys 0 })∧TreeS B D _ t (.slice (some ⟨g,0,none⟩) N cn) fv ns5 T.free T.k l:=⟨_,uZ.out.set_b _,yM.out⟩
 have uR:=CM hT5
 clear hT5
 obtain⟨V5,hV5,hs5⟩:=hs5.hide
 rw [←hV5]
 clear hV5 v4 yM y1' nf'
 obtain⟨i0,i1,i2,i3,nf⟩:=hs5.node_cells uR.out.hi
 obtain⟨x0,x1,x2,x3,_⟩:=hs5.node_cells uR.out.ha
 obtain⟨y0,y1,y2,y3,_⟩:=hs5.node_cells uR.out.hb
 dsimp only at i0 i1 i2 i3 x0 x1 x2 x3 y0 y1 y2 y3
 have wt:=CM hs5
 clear hs5
 have hdl:(aQ my.keys 0).length=q:=by have:=cN my.keys 0 (by rw [yy.out];omega);rw [yy.out]at this;omega
 have hqq:0<q:=by have:=(List.getElem?_eq_some_iff.1 Ah.out).1;rw [yy.out]at this;omega
 have hd0:(aQ my.keys 0)[0]?=some yk1:=by unfold aQ;simp;exact Ah.out
 obtain⟨zkg,zkc,hzk,_,_⟩:=aE (Sat.own (wt.out.focus uR.out.hb) 0 rfl) (by show 0<(aQ my.keys 0).length;omega)
 dsimp only at hzk
 rw [hdl]at hzk
 rw [Value.slice.injEq]at hzk
 obtain⟨rfl,-,rfl⟩:=hzk
 have yI:=CM hdl
 have Cl:=CM hd0
 have hqq0:(0:Int)<(q:Int):=by omega
 clear hdl hd0
 have hro:=Sat.own (wt.out.focus uR.out.hi) 0 rfl
 dsimp only at hro
 obtain⟨_,_,hrr⟩:=hro.row
 have pf:=hrr.frozen
 clear hro hrr
 have hrk:=wt.out.keys_rd uR.out.hb
 dsimp only at hrk
 rw [yI.out]at hrk
 obtain⟨k0,k1,k2⟩:=aM hrk Cl.out
 simp only [Nat.zero_add,Nat.zero_mul]at k0 k1 k2
 clear hrk
 have hrk:=wt.out.keys_rd uR.out.hi
 dsimp only at hrk
 obtain⟨j0,j1,j2⟩:=aM hrk wZ.out
 simp only [Nat.zero_add,Nat.zero_mul]at j0 j1 j2
 clear hrk
 go_upto_region 7 with (fail)
 have hs6:=(wt.out.key_set uR.out.hi rfl C yk1 (by show C<mi.keys.length;omega)).drew
 obtain⟨ns6,hT6,hs6⟩:∃ns6,Tri ns ns6 i a b (⟨.slice (some ⟨ikg,0,none⟩) mi.keys.length ikc,ivv,.slice (some ⟨idg,0,none⟩) mi.kids.length idc⟩,{ mi with keys:=mi.keys.set C yk1 }) (⟨.slice o2 (mx.keys.length+1) c2,.slice o3 (mx.vals.length+1) c3,xdv⟩,{ mx with keys:=mx.keys ++ [yk],vals:=mx.vals ++ [yd] }) (⟨.slice (some ⟨zkg,0,none⟩) q c5,.slice o4 q c4,ydv⟩,{ my with vals:=aQ my.vals 0,keys:=aQ my.keys 0 })∧TreeS B D _ t (.slice (some ⟨g,0,none⟩) N cn) fv ns6 T.free T.k l:=⟨_,uR.out.set_i _,hs6⟩
 have uu:=CM hs6
 have wu:=CM hT6
 clear hs6 hT6
 refine af [(0,false,12),(1,false,12),(2,false,12),(3,false,12),(4,false,12),(5,false,12),(6,false,12),(7,false,12),(8,false,12),(9,false,12),(10,false,12),(11,false,12),(12,true,0)] (by kernel_rfl) (by kernel_rfl) ?_
 iterate 12 (refine ae rfl rfl (fun K hK=>?_);go_simp;refine hK _ ?_;clear hK K)
 refine ag rfl ?_
 refine wpList_plain rfl (fun K hK=>?_)
 go_simp
 refine hK _ _ ?_
 clear hK K
 refine wpList_nil ?_
 refine And.intro ?_ ?_
 ·go_simp
 refine ah ?_
 clear wt k0 k1 k2 j0 j1 j2 pf i0 i1 i2 i3 nf x0 x1 x2 x3 y0 y1 y2 y3
 go_wp2_with (fail)
 refine bodyPost_ret (results_none rfl _ _ _) rfl ?_
 exact⟨rfl,_,_,_,wu.out.done uL.out,uu.out⟩
theorem jP {B w:World}{D:PH}{t:Nat}{T:TM}{l:List HP}{i C a b q:Nat}{mi mx my:NodeM}{yk sk:Val}{yd:Nat}(hi:T.nodes[i]?=some mi)(hx:T.nodes[a]?=some mx)(hy:T.nodes[b]?=some my)(hia:i≠a)(hib:i≠b)(hab:a≠b)(hca:mi.kids[C]?=some a)(hcb:mi.kids[C+1]?=some b)(hkC:C<mi.keys.length)(hmb:mi.kids.length≤1000)(hlx:mx.leaf=false)(hyl:my.keys.length=q+1)(hyv:my.kids.length=q+2)(hxb:q≤1000)(hxkb:mx.keys.length≤1000)(hxdb:mx.kids.length≤1000)
  (hyk:my.keys[0]?=some yk) (hyd:my.kids[0]?=some yd) (hsk:mi.keys[C]?=some sk)  (h:TreeA B D w t T l) :
  Calls Tryz.prog 133 #[.pointer (some ⟨t,0,none⟩),.int .i64 i,.int .i64 (C:Int)] w fun e w'=>e = .returned (.tuple #[]) ∧
   TreeA B D w' t (T.tri i a b { mi with keys:=mi.keys.set C yk } { mx with keys:=mx.keys ++ [sk],kids:=mx.kids ++ [yd] } { my with keys:=aQ my.keys 0,kids:=aQ my.kids 0 }) l:=by
 obtain⟨nv,fv,ns,hns,hs⟩:=h
 obtain⟨⟨ikv,ivv,idv⟩,hpi⟩:=aH hns hi
 obtain⟨⟨xkv,xvv,xdv⟩,hpx⟩:=aH hns hx
 obtain⟨⟨ykv,yvv,ydv⟩,hpy⟩:=aH hns hy
 have hTr:Tri ns ns i a b _ _ _:=⟨hpi,hpx,hpy,fun _ _ _ _=>rfl,rfl,hia,hib,hab⟩
 obtain⟨lt1,lt2,lt3⟩:=hTr.lt
 obtain⟨g,cn,rfl,_,hcm⟩:=hs.nv_some (by omega)
 unfold maxLen at hcm
 have hclt:=(List.getElem?_eq_some_iff.1 hcb).1
 obtain⟨ikg,ikc,hikv,hikc,_⟩:=aE (Sat.own (hs.focus hpi) 0 rfl) (by show 0<mi.keys.length;omega)
 obtain⟨idg,idc,hidv,_,_⟩:=aE (Sat.own (hs.focus hpi) 2 rfl) (by show 0<mi.kids.length;omega)
 obtain⟨ykg,ykc,hykv,hykc,hykc2⟩:=aE (Sat.own (hs.focus hpy) 0 rfl) (by show 0<my.keys.length;omega)
 obtain⟨ydg,ydc,hyvv,hydc,hydc2⟩:=aE (Sat.own (hs.focus hpy) 2 rfl) (by show 0<my.kids.length;omega)
 obtain⟨xko,xkc,hxkv⟩:=(hs.focus hpx).own_shape
 obtain⟨xdo,xdc,hxvv⟩:=(hs.focus hpx).drop.drop.own_shape
 dsimp only at hikv hidv hykv hyvv hxkv hxvv hikc hykc hydc
 rw [hyl]at hykv hykc
 rw [hyv]at hyvv hydc
 subst hikv hidv hykv hyvv hxkv hxvv
 have hq0:(0:Int)<(q:Int)+1:=by omega
 have hq02:(0:Int)<(q:Int)+2:=by omega
 generalize hN:ns.length=N at *
 have hib1:(i:Int)<(N:Int):=by omega
 have hab1:(a:Int)<(N:Int):=by omega
 have hbb1:(b:Int)<(N:Int):=by omega
 have hC1:(C:Int)<(mi.kids.length:Int):=by omega
 have hC2:(C:Int)+1<(mi.kids.length:Int):=by omega
 have hC3:(C:Int)<(mi.keys.length:Int):=by omega
 have hwC:IntKind.i64.wrap ((C:Int)+1-1)=(C:Int):=by rw [bV _ (by omega) (by omega)];omega
 have hwC0:IntKind.i64.wrap (C:Int)=(C:Int):=bV _ (by omega) (by omega)
 have hwq0:IntKind.i64.wrap (q:Int)=(q:Int):=bV _ (by omega) (by omega)
 have hwC1:IntKind.i64.wrap ((C:Int)+1)=(C:Int)+1:=bV _ (by omega) (by omega)
 have hwC2:IntKind.i64.wrap ((C:Int)+2)=(C:Int)+1+1:=by rw [bV _ (by omega) (by omega)];omega
 have hwq:IntKind.i64.wrap ((q:Int)+1-1)=(q:Int):=by rw [bV _ (by omega) (by omega)];omega
 have hwq1:IntKind.i64.wrap ((q:Int)+1)=(q:Int)+1:=bV _ (by omega) (by omega)
 have hqi:(q:Int)<(q:Int)+1:=by omega
 have hq01:0≤(q:Int)+1:=by omega
 have hC01:0≤(C:Int)+1:=by omega
 obtain⟨t0,t1,t2,t3,t4,tf⟩:=hs.tcells
 obtain⟨i0,i1,i2,i3,nf⟩:=hs.node_cells hTr.hi
 obtain⟨x0,x1,x2,x3,_⟩:=hs.node_cells hTr.ha
 obtain⟨y0,y1,y2,y3,_⟩:=hs.node_cells hTr.hb
 have hca1:=bI (hs.kids_rd hpi) hca
 have hcb1:=bI (hs.kids_rd hpi) hcb
 dsimp only at i0 i1 i2 i3 x0 x1 x2 x3 y0 y1 y2 y3 hca1 hcb1
 have HS:=CM hs
 have HT:=CM hTr
 have uL:=CM hns
 have wM:=CM hlx
 have yy:=CM hyl
 have wU:=CM hyv
 have yl:=CM hyk
 have Ag:=CM hyd
 have wZ:=CM hsk
 clear hlx hyl hyv hyk hyd hsk
 clear hs hTr hns hi hx hy hia hib hab hca hcb hpi hpx hpy hN
 push_cast
 go_enter Tryz.func133,Tryz.ntmps133
 go_upto_region 1 with (fail)
 go_quiet (fail)
 have hs1:=HS.out.kept ((Kept.refl (fun _=>False) w).drewN nq)
 obtain⟨W1,hW1⟩:∃W1,W1=w.drewN nq:=⟨_,rfl⟩
 rw [←hW1]at hs1 ⊢
 clear hW1 HS t0 t1 t2 t3 t4 tf i0 i1 i2 i3 nf x0 x1 x2 x3 y0 y1 y2 y3 hca1 hcb1
 obtain⟨i0,i1,i2,i3,nf⟩:=hs1.node_cells HT.out.hi
 obtain⟨x0,x1,x2,x3,_⟩:=hs1.node_cells HT.out.ha
 obtain⟨y0,y1,y2,y3,_⟩:=hs1.node_cells HT.out.hb
 dsimp only at i0 i1 i2 i3 x0 x1 x2 x3 y0 y1 y2 y3
 have uk:=CM hs1
 clear hs1
 rw [wM.out]at x0
 have hrk:=uk.out.keys_rd HT.out.hi
 dsimp only at hrk
 obtain⟨j0,j1,j2⟩:=aM hrk wZ.out
 simp only [Nat.zero_add,Nat.zero_mul]at j0 j1 j2
 clear hrk
 go_upto_region 8 with (fail)
 refine af [(0,false,16),(1,false,13),(2,false,13),(3,false,13),(4,false,13),(5,false,12),(6,false,12),(7,false,12),(8,false,12),(9,false,12),(10,false,12),(11,false,12),(12,true,0),(13,true,0),(14,false,16),(15,false,16),(16,true,0)] (by kernel_rfl) (by kernel_rfl) ?_
 iterate 12 (refine ae rfl rfl (fun K hK=>?_);go_simp;refine hK _ ?_;clear hK K)
 refine ag rfl ?_
 refine wpList_plain rfl (fun K hK=>?_)
 go_simp
 refine hK _ _ ?_
 clear hK K
 refine wpList_nil ?_
 have hal:=(uk.out.alloc #[.bool sk.t,.int .i64 sk.n,.string sk.s] tV).drew
 have hrb:=kM (size:=3) (cs:=Val.cells sk) (Sat.blk hal 4 rfl) rfl
 have hal2:=hal.drop
 obtain⟨W2,hW2,hal2⟩:=hal2.hide
 rw [←hW2]at hrb ⊢
 generalize W1.heap.size=bx2 at hrb ⊢
 clear hal hW2 uk j0 j1 j2 i0 i1 i2 i3 nf x0 x1 x2 x3 y0 y1 y2 y3
 obtain⟨i0,i1,i2,i3,nf⟩:=hal2.node_cells HT.out.hi
 obtain⟨x0,x1,x2,x3,_⟩:=hal2.node_cells HT.out.ha
 obtain⟨y0,y1,y2,y3,_⟩:=hal2.node_cells HT.out.hb
 dsimp only at i0 i1 i2 i3 x0 x1 x2 x3 y0 y1 y2 y3
 have hrk:=hal2.keys_rd HT.out.hi
 dsimp only at hrk
 obtain⟨j0,j1,j2⟩:=aM hrk wZ.out
 simp only [Nat.zero_add,Nat.zero_mul]at j0 j1 j2
 clear hrk
 have vd:=CM hal2
 have wo:=CM hrb
 clear hal2 hrb
 refine And.intro ?_ ?_
 ·go_simp
 refine ag rfl ?_
 refine dl rfl _ _ rfl (new:=[sk]) vd.out HT.out.ha rfl rfl (by rw [List.flatMap_singleton];exact wo.out) (by show mx.keys.length+1≤10000;omega) ?_
 intro o2 c2 w2 y1' nf' hs2
 rw [List.length_singleton]at hs2
 obtain⟨ns2,hT2,hs2⟩:∃ns2,Tri ns ns2 i a b (⟨.slice (some ⟨ikg,0,none⟩) mi.keys.length ikc,ivv,.slice (some ⟨idg,0,none⟩) mi.kids.length idc⟩,mi) (⟨.slice o2 (mx.keys.length+1) c2,xvv,.slice xdo mx.kids.length xdc⟩,{ mx with keys:=mx.keys ++ [sk] }) (⟨.slice (some ⟨ykg,0,none⟩) (q+1) ykc,yvv,.slice (some ⟨ydg,0,none⟩) (q+2) ydc⟩,my)∧TreeS B D _ t (.slice (some ⟨g,0,none⟩) N cn) fv ns2 T.free T.k l:=⟨_,HT.out.set_a _,hs2⟩
 have ur:=CM hs2
 have uJ:=CM hT2
 clear hs2 hT2 vd wo j0 j1 j2 i0 i1 i2 i3 nf x0 x1 x2 x3 y0 y1 y2 y3
 refine wpList_nil ?_
 refine And.intro ?_ ?_
 ·go_simp
 iterate 2 (refine ae rfl rfl (fun K hK=>?_);go_simp;refine hK _ ?_;clear hK K)
 refine ag rfl ?_
 refine wpList_plain rfl (fun K hK=>?_)
 go_simp
 refine hK _ _ ?_
 clear hK K
 refine wpList_nil ?_
 refine And.intro ?_ ?_
 ·go_simp
 refine ah ?_
 go_upto_region 9 with (fail)
 obtain⟨V2,hV2,hs2⟩:=ur.out.hide
 rw [←hV2]
 clear hV2 ur y1' nf'
 obtain⟨i0,i1,i2,i3,nf⟩:=hs2.node_cells uJ.out.hi
 obtain⟨x0,x1,x2,x3,_⟩:=hs2.node_cells uJ.out.ha
 obtain⟨y0,y1,y2,y3,_⟩:=hs2.node_cells uJ.out.hb
 dsimp only at i0 i1 i2 i3 x0 x1 x2 x3 y0 y1 y2 y3
 have vA:=CM hs2
 clear hs2
 have hrk:=vA.out.kids_rd uJ.out.hb
 dsimp only at hrk
 rw [wU.out]at hrk
 have v0:=iT hrk Ag.out
 clear hrk
 go_upto_region 9 with (fail)
 refine af [(0,false,15),(1,false,12),(2,false,12),(3,false,12),(4,false,12),(5,false,11),(6,false,11),(7,false,11),(8,false,11),(9,false,11),(10,false,11),(11,true,0),(12,true,0),(13,false,15),(14,false,15),(15,true,0)] (by kernel_rfl) (by kernel_rfl) ?_
 iterate 11 (refine ae rfl rfl (fun K hK=>?_);go_simp;refine hK _ ?_;clear hK K)
 refine ag rfl ?_
 refine wpList_plain rfl (fun K hK=>?_)
 go_simp
 refine hK _ _ ?_
 clear hK K
 refine wpList_nil ?_
 have hal:=(vA.out.alloc #[.int .i64 (yd:Int)] tI).drew
 have hrb:=kM (size:=1) (cs:=ncells yd) (Sat.blk hal 4 rfl) rfl
 have hal2:=hal.drop
 obtain⟨W3,hW3,hal2⟩:=hal2.hide
 rw [←hW3]at hrb ⊢
 generalize V2.heap.size=bx3 at hrb ⊢
 clear hal hW3 vA v0 i0 i1 i2 i3 nf x0 x1 x2 x3 y0 y1 y2 y3
 obtain⟨i0,i1,i2,i3,nf⟩:=hal2.node_cells uJ.out.hi
 obtain⟨x0,x1,x2,x3,_⟩:=hal2.node_cells uJ.out.ha
 obtain⟨y0,y1,y2,y3,_⟩:=hal2.node_cells uJ.out.hb
 dsimp only at i0 i1 i2 i3 x0 x1 x2 x3 y0 y1 y2 y3
 have hrk:=hal2.kids_rd uJ.out.hb
 dsimp only at hrk
 rw [wU.out]at hrk
 have v0:=iT hrk Ag.out
 clear hrk
 have vd:=CM hal2
 have wo:=CM hrb
 clear hal2 hrb
 refine And.intro ?_ ?_
 ·go_simp
 refine ag rfl ?_
 refine eq rfl _ _ rfl (new:=[yd]) vd.out uJ.out.ha rfl rfl (by rw [List.flatMap_singleton];exact wo.out) (by show mx.kids.length+1≤10000;omega) ?_
 intro o3 c3 w3 y1' nf' hs3
 rw [List.length_singleton]at hs3
 obtain⟨ns3,hT3,hs3⟩:∃ns3,Tri ns ns3 i a b (⟨.slice (some ⟨ikg,0,none⟩) mi.keys.length ikc,ivv,.slice (some ⟨idg,0,none⟩) mi.kids.length idc⟩,mi) (⟨.slice o2 (mx.keys.length+1) c2,xvv,.slice o3 (mx.kids.length+1) c3⟩,{ mx with keys:=mx.keys ++ [sk],kids:=mx.kids ++ [yd] }) (⟨.slice (some ⟨ykg,0,none⟩) (q+1) ykc,yvv,.slice (some ⟨ydg,0,none⟩) (q+2) ydc⟩,my)∧TreeS B D _ t (.slice (some ⟨g,0,none⟩) N cn) fv ns3 T.free T.k l:=⟨_,uJ.out.set_a _,hs3⟩
 have ut:=CM hs3
 have uM:=CM hT3
 clear hs3 hT3 vd wo v0 i0 i1 i2 i3 nf x0 x1 x2 x3 y0 y1 y2 y3
 refine wpList_nil ?_
 refine And.intro ?_ ?_
 ·go_simp
 iterate 2 (refine ae rfl rfl (fun K hK=>?_);go_simp;refine hK _ ?_;clear hK K)
 refine ag rfl ?_
 refine wpList_plain rfl (fun K hK=>?_)
 go_simp
 refine hK _ _ ?_
 clear hK K
 refine wpList_nil ?_
 refine And.intro ?_ ?_
 ·go_simp
 refine ah ?_
 go_upto_region 10 with (fail)
 obtain⟨V3,hV3,hs3⟩:=ut.out.hide
 rw [←hV3]
 clear hV3 ut y1' nf'
 obtain⟨i0,i1,i2,i3,nf⟩:=hs3.node_cells uM.out.hi
 obtain⟨x0,x1,x2,x3,_⟩:=hs3.node_cells uM.out.ha
 obtain⟨y0,y1,y2,y3,_⟩:=hs3.node_cells uM.out.hb
 dsimp only at i0 i1 i2 i3 x0 x1 x2 x3 y0 y1 y2 y3
 have vS:=CM hs3
 clear hs3
 have hro:=Sat.own (vS.out.focus uM.out.hi) 0 rfl
 dsimp only at hro
 obtain⟨_,_,hrr⟩:=hro.row
 have pf:=hrr.frozen
 clear hro hrr
 have hrk:=vS.out.keys_rd uM.out.hb
 dsimp only at hrk
 rw [yy.out]at hrk
 obtain⟨k0,k1,k2⟩:=aM hrk yl.out
 simp only [Nat.zero_add,Nat.zero_mul]at k0 k1 k2
 clear hrk
 have hrk:=vS.out.keys_rd uM.out.hi
 dsimp only at hrk
 obtain⟨j0,j1,j2⟩:=aM hrk wZ.out
 simp only [Nat.zero_add,Nat.zero_mul]at j0 j1 j2
 clear hrk
 go_upto_region 10 with (fail)
 have hs4:=(vS.out.key_set uM.out.hi rfl C yk (by show C<mi.keys.length;omega)).drew
 obtain⟨ns4,hT4,hs4⟩:∃ns4,Tri ns ns4 i a b (⟨.slice (some ⟨ikg,0,none⟩) mi.keys.length ikc,ivv,.slice (some ⟨idg,0,none⟩) mi.kids.length idc⟩,{ mi with keys:=mi.keys.set C yk }) (⟨.slice o2 (mx.keys.length+1) c2,xvv,.slice o3 (mx.kids.length+1) c3⟩,{ mx with keys:=mx.keys ++ [sk],kids:=mx.kids ++ [yd] }) (⟨.slice (some ⟨ykg,0,none⟩) (q+1) ykc,yvv,.slice (some ⟨ydg,0,none⟩) (q+2) ydc⟩,my)∧TreeS B D _ t (.slice (some ⟨g,0,none⟩) N cn) fv ns4 T.free T.k l:=⟨_,uM.out.set_i _,hs4⟩
 have uy:=CM hs4
 have uZ:=CM hT4
 clear hs4 hT4
 refine af [(0,false,12),(1,false,12),(2,false,12),(3,false,12),(4,false,12),(5,false,12),(6,false,12),(7,false,12),(8,false,12),(9,false,12),(10,false,12),(11,false,12),(12,true,0)] (by kernel_rfl) (by kernel_rfl) ?_
 iterate 12 (refine ae rfl rfl (fun K hK=>?_);go_simp;refine hK _ ?_;clear hK K)
 refine ag rfl ?_
 refine wpList_plain rfl (fun K hK=>?_)
 go_simp
 refine hK _ _ ?_
 clear hK K
 refine wpList_nil ?_
 refine And.intro ?_ ?_
 ·go_simp
 refine ah ?_
 clear vS k0 k1 k2 j0 j1 j2 pf i0 i1 i2 i3 nf x0 x1 x2 x3 y0 y1 y2 y3
 go_upto_region 11 with (fail)
 obtain⟨V4,hV4,hs4⟩:=uy.out.hide
 rw [←hV4]
 clear hV4 uy
 obtain⟨i0,i1,i2,i3,nf⟩:=hs4.node_cells uZ.out.hi
 obtain⟨x0,x1,x2,x3,_⟩:=hs4.node_cells uZ.out.ha
 obtain⟨y0,y1,y2,y3,_⟩:=hs4.node_cells uZ.out.hb
 dsimp only at i0 i1 i2 i3 x0 x1 x2 x3 y0 y1 y2 y3
 have v4:=CM hs4
 clear hs4
 go_upto_region 12 with ((go_at_call 119;refine(TreeS.del_keys (q:=0) (n:=q) v4.out uZ.out.hb yy.out (Nat.zero_le _)).mono ?_;rintro e5 w5 ⟨o5,c5,rfl,y1',nf',hs5⟩;have yM:=CM hs5;clear hs5 i0 i1 i2 i3 nf x0 x1 x2 x3 y0 y1 y2 y3))
 obtain⟨ns5,hT5,hs5⟩:∃ns5,Tri ns ns5 i a b (⟨.slice (some ⟨ikg,0,none⟩) mi.keys.length ikc,ivv,.slice (some ⟨idg,0,none⟩) mi.kids.length idc⟩,{ mi with keys:=mi.keys.set C yk }) (⟨.slice o2 (mx.keys.length+1) c2,xvv,.slice o3 (mx.kids.length+1) c3⟩,{ mx with keys:=mx.keys ++ [sk],kids:=mx.kids ++ [yd] }) (⟨.slice o5 q c5,yvv,.slice (some ⟨ydg,0,none⟩) (q+2) ydc⟩,{ my with keys:=aQ my.keys 0 })∧TreeS B D _ t (.slice (some ⟨g,0,none⟩) N cn) fv ns5 T.free T.k l:=⟨_,uZ.out.set_b _,yM.out⟩
 have uR:=CM hT5
 clear hT5
 obtain⟨V5,hV5,hs5⟩:=hs5.hide
 rw [←hV5]
 clear hV5 v4 yM y1' nf'
 obtain⟨i0,i1,i2,i3,nf⟩:=hs5.node_cells uR.out.hi
 obtain⟨x0,x1,x2,x3,_⟩:=hs5.node_cells uR.out.ha
 obtain⟨y0,y1,y2,y3,_⟩:=hs5.node_cells uR.out.hb
 dsimp only at i0 i1 i2 i3 x0 x1 x2 x3 y0 y1 y2 y3
 have wt:=CM hs5
 clear hs5
 go_wp2_with ((go_at_call 144;refine(TreeS.del_kids (q:=0) (n:=(q+1)) wt.out uR.out.hb wU.out (Nat.zero_le _)).mono ?_;rintro e6 w6 ⟨o6,c6,rfl,y1',nf',hs6⟩;have zk:=CM hs6;clear hs6 i0 i1 i2 i3 nf x0 x1 x2 x3 y0 y1 y2 y3))
 obtain⟨ns6,hT6,hs6⟩:∃ns6,Tri ns ns6 i a b (⟨.slice (some ⟨ikg,0,none⟩) mi.keys.length ikc,ivv,.slice (some ⟨idg,0,none⟩) mi.kids.length idc⟩,{ mi with keys:=mi.keys.set C yk }) (⟨.slice o2 (mx.keys.length+1) c2,xvv,.slice o3 (mx.kids.length+1) c3⟩,{ mx with keys:=mx.keys ++ [sk],kids:=mx.kids ++ [yd] }) (⟨.slice o5 q c5,yvv,.slice o6 (q+1) c6⟩,{ my with keys:=aQ my.keys 0,kids:=aQ my.kids 0 })∧TreeS B D _ t (.slice (some ⟨g,0,none⟩) N cn) fv ns6 T.free T.k l:=⟨_,uR.out.set_b _,zk.out⟩
 have wu:=CM hT6
 clear hT6
 go_end0
 exact⟨rfl,_,_,_,wu.out.done uL.out,hs6⟩
end Go.Proofs.YtdobimafhbfkhaaGreat
