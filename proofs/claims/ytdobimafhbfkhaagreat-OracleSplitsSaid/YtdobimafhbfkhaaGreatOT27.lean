/- The tree: contract of fromLeft, at leaves (printed by genmend.py). -/
import Derived.Test.YtdobimafhbfkhaaGreatOT26
set_option maxHeartbeats 64000000
namespace Go.Proofs.YtdobimafhbfkhaaGreat
open Go.ChangeShapes Go.WideShapes Go.ChangeAt Go.RowKit
set_option maxRecDepth 100000
set_option linter.unusedSimpArgs false
theorem iT {w:World}{g n c i x:Nat}{vs:List Nat}(h:Rd w 1 (.slice (some ⟨g,0,none⟩) n c) n (vs.flatMap ncells))(hi:vs[i]?=some x):w.cell? ⟨g,i,none⟩=some (.int .i64 x):=by
 have hlt:=(List.getElem?_eq_some_iff.1 hi).1
 rcases h.2.2 with ⟨_,_,hv,_,_,_,hcell⟩
 cases hv
 rcases hcell with h0|⟨_,_,hg,hc⟩
 ·have:=h.1
  rw [cz iZ]at this
  omega
 ·cases hg
  have:=hc _ _ (bH iZ vs i x hi 0 _ rfl)
  simpa using this
theorem lH {B w:World}{D:PH}{t:Nat}{T:TM}{l:List HP}{i C a b q:Nat}{mi mx my:NodeM}{xk sk:Val}{xv:VT}(hi:T.nodes[i]?=some mi)(hx:T.nodes[a]?=some mx)(hy:T.nodes[b]?=some my)(hia:i≠a)(hib:i≠b)(hab:a≠b)(hca:mi.kids[C]?=some a)(hcb:mi.kids[C+1]?=some b)(hkC:C<mi.keys.length)(hmb:mi.kids.length≤1000)(hlx:my.leaf=true)(hxl:mx.keys.length=q+1)(hxv:mx.vals.length=q+1)(hyv:my.vals.length=my.keys.length)(hxb:q≤1000)(hyb:my.keys.length≤1000)
  (hxk:mx.keys[q]?=some xk) (hxvv:mx.vals[q]?=some xv) (hsk:mi.keys[C]?=some sk) (h:TreeA B D w t T l) :
  Calls Tryz.prog 132 #[.pointer (some ⟨t,0,none⟩),.int .i64 i,.int .i64 ((C+1:Nat):Int)] w fun e w'=>e = .returned (.tuple #[]) ∧
   TreeA B D w' t (T.tri i a b { mi with keys:=mi.keys.set C xk } { mx with keys:=mx.keys.take q,vals:=mx.vals.take q } { my with keys:=aU my.keys 0 xk,vals:=aU my.vals 0 xv }) l:=by
 obtain⟨nv,fv,ns,hns,hs⟩:=h
 obtain⟨⟨ikv,ivv,idv⟩,hpi⟩:=aH hns hi
 obtain⟨⟨xkv,xvv,xdv⟩,hpx⟩:=aH hns hx
 obtain⟨⟨ykv,yvv,ydv⟩,hpy⟩:=aH hns hy
 have hTr:Tri ns ns i a b _ _ _:=⟨hpi,hpx,hpy,fun _ _ _ _=>rfl,rfl,hia,hib,hab⟩
 obtain⟨lt1,lt2,lt3⟩:=hTr.lt
 obtain⟨g,cn,rfl,_,hcm⟩:=hs.nv_some (by omega)
 unfold maxLen at hcm
 have hclt:=(List.getElem?_eq_some_iff.1 hcb).1
 obtain⟨ikg,ikc,hikv,hikc,_⟩:=aE (Sat.own (hs.focus hpi) 0 rfl) (by show 0<mi.keys.length;omega)
 obtain⟨idg,idc,hidv,_,_⟩:=aE (Sat.own (hs.focus hpi) 2 rfl) (by show 0<mi.kids.length;omega)
 obtain⟨xkg,xkc,hxkv,hxkc,hxkc2⟩:=aE (Sat.own (hs.focus hpx) 0 rfl) (by show 0<mx.keys.length;omega)
 obtain⟨xvg,xvc,hxvv2,hxvc,hxvc2⟩:=aE (Sat.own (hs.focus hpx) 1 rfl) (by show 0<mx.vals.length;omega)
 obtain⟨yko,ykc,hykv⟩:=(hs.focus hpy).own_shape
 obtain⟨yvo,yvc,hyvv⟩:=(hs.focus hpy).drop.own_shape
 dsimp only at hikv hidv hxkv hxvv2 hykv hyvv hikc hxkc hxvc
 rw [hxl]at hxkv hxkc
 rw [hxv]at hxvv2 hxvc
 rw [hyv]at hyvv
 subst hikv hidv hxkv hxvv2 hykv hyvv
 have hqkc:(q:Int)≤(xkc:Int):=by omega
 have hqvc:(q:Int)≤(xvc:Int):=by omega
 generalize hN:ns.length=N at *
 have hib1:(i:Int)<(N:Int):=by omega
 have hab1:(a:Int)<(N:Int):=by omega
 have hbb1:(b:Int)<(N:Int):=by omega
 have hC1:(C:Int)<(mi.kids.length:Int):=by omega
 have hC2:(C:Int)+1<(mi.kids.length:Int):=by omega
 have hC3:(C:Int)<(mi.keys.length:Int):=by omega
 have hwC:IntKind.i64.wrap ((C:Int)+1-1)=(C:Int):=by rw [bV _ (by omega) (by omega)];omega
 have hwC0:IntKind.i64.wrap (C:Int)=(C:Int):=bV _ (by omega) (by omega)
 have hwq0:IntKind.i64.wrap (q:Int)=(q:Int):=bV _ (by omega) (by omega)
 have hwC1:IntKind.i64.wrap ((C:Int)+1)=(C:Int)+1:=bV _ (by omega) (by omega)
 have hwC2:IntKind.i64.wrap ((C:Int)+2)=(C:Int)+1+1:=by rw [bV _ (by omega) (by omega)];omega
 have hwq:IntKind.i64.wrap ((q:Int)+1-1)=(q:Int):=by rw [bV _ (by omega) (by omega)];omega
 have hwq1:IntKind.i64.wrap ((q:Int)+1)=(q:Int)+1:=bV _ (by omega) (by omega)
 have hqi:(q:Int)<(q:Int)+1:=by omega
 have hq01:0≤(q:Int)+1:=by omega
 have hC01:0≤(C:Int)+1:=by omega
 obtain⟨t0,t1,t2,t3,t4,tf⟩:=hs.tcells
 obtain⟨i0,i1,i2,i3,nf⟩:=hs.node_cells hTr.hi
 obtain⟨x0,x1,x2,x3,_⟩:=hs.node_cells hTr.ha
 obtain⟨y0,y1,y2,y3,_⟩:=hs.node_cells hTr.hb
 have hca1:=bI (hs.kids_rd hpi) hca
 have hcb1:=bI (hs.kids_rd hpi) hcb
 dsimp only at i0 i1 i2 i3 x0 x1 x2 x3 y0 y1 y2 y3 hca1 hcb1
 have HS:=CM hs
 have HT:=CM hTr
 have uL:=CM hns
 have wM:=CM hlx
 have HXL:=CM hxl
 have zj:=CM hxv
 have wU:=CM hyv
 have AP:=CM hxk
 have xU:=CM hxvv
 have wZ:=CM hsk
 clear hlx hxl hxv hyv hxk hxvv hsk
 clear hs hTr hns hi hx hy hia hib hab hca hcb hpi hpx hpy hN
 push_cast
 go_enter Tryz.func132,Tryz.ntmps132
 go_upto_region 1 with (fail)
 go_quiet (fail)
 have hs1:=HS.out.kept ((Kept.refl (fun _=>False) w).drewN nq)
 obtain⟨W1,hW1⟩:∃W1,W1=w.drewN nq:=⟨_,rfl⟩
 rw [←hW1]at hs1 ⊢
 clear hW1 HS t0 t1 t2 t3 t4 tf i0 i1 i2 i3 nf x0 x1 x2 x3 y0 y1 y2 y3 hca1 hcb1
 obtain⟨i0,i1,i2,i3,nf⟩:=hs1.node_cells HT.out.hi
 obtain⟨x0,x1,x2,x3,_⟩:=hs1.node_cells HT.out.ha
 obtain⟨y0,y1,y2,y3,_⟩:=hs1.node_cells HT.out.hb
 dsimp only at i0 i1 i2 i3 x0 x1 x2 x3 y0 y1 y2 y3
 have uk:=CM hs1
 clear hs1
 rw [wM.out]at y0
 have hrk:=uk.out.keys_rd HT.out.ha
 dsimp only at hrk
 rw [HXL.out]at hrk
 obtain⟨k0,k1,k2⟩:=aM hrk AP.out
 simp only [Nat.zero_add,Nat.zero_mul]at k0 k1 k2
 clear hrk
 go_upto_region 4 with (fail)
 refine af [(0,false,16),(1,false,13),(2,false,13),(3,false,13),(4,false,13),(5,false,12),(6,false,12),(7,false,12),(8,false,12),(9,false,12),(10,false,12),(11,false,12),(12,true,0),(13,true,0),(14,false,16),(15,false,16),(16,true,0)] (by kernel_rfl) (by kernel_rfl) ?_
 iterate 12 (refine ae rfl rfl (fun K hK=>?_);go_simp;refine hK _ ?_;clear hK K)
 refine ag rfl ?_
 refine wpList_plain rfl (fun K hK=>?_)
 go_simp
 refine hK _ _ ?_
 clear hK K
 refine wpList_nil ?_
 have hal:=(uk.out.alloc #[.bool xk.t,.int .i64 xk.n,.string xk.s] tV).drew
 obtain⟨W2,hW2,hal⟩:=hal.hide
 rw [←hW2]
 generalize W1.heap.size=bx2 at hal ⊢
 clear hW2 uk k0 k1 k2 i0 i1 i2 i3 nf x0 x1 x2 x3 y0 y1 y2 y3
 obtain⟨i0,i1,i2,i3,nf⟩:=hal.node_cells HT.out.hi
 obtain⟨x0,x1,x2,x3,_⟩:=hal.node_cells HT.out.ha
 obtain⟨y0,y1,y2,y3,_⟩:=hal.node_cells HT.out.hb
 dsimp only at i0 i1 i2 i3 x0 x1 x2 x3 y0 y1 y2 y3
 have hrk:=hal.keys_rd HT.out.ha
 dsimp only at hrk
 rw [HXL.out]at hrk
 obtain⟨k0,k1,k2⟩:=aM hrk AP.out
 simp only [Nat.zero_add,Nat.zero_mul]at k0 k1 k2
 clear hrk
 have vd:=CM hal
 clear hal
 refine And.intro ?_ ?_
 ·go_simp
 refine ag rfl ?_
 refine au rfl (fun K hK=>?_)
 go_simp
 refine(TreeS.ins_keys (q:=0) (x:=xk) vd.out HT.out.hb (Nat.zero_le _) (by show(my.keys.length+1)*32≤_;omega)).mono ?_
 rintro e2 w2 ⟨o2,c2,rfl,y1',nf',hs2⟩
 obtain⟨ns2,hT2,hs2⟩:∃ns2,Tri ns ns2 i a b (⟨.slice (some ⟨ikg,0,none⟩) mi.keys.length ikc,ivv,.slice (some ⟨idg,0,none⟩) mi.kids.length idc⟩,mi) (⟨.slice (some ⟨xkg,0,none⟩) (q+1) xkc,.slice (some ⟨xvg,0,none⟩) (q+1) xvc,xdv⟩,mx) (⟨.slice o2 (my.keys.length+1) c2,.slice yvo my.keys.length yvc,ydv⟩,{ my with keys:=aU my.keys 0 xk })∧TreeS B D _ t (.slice (some ⟨g,0,none⟩) N cn) fv ns2 T.free T.k l:=⟨_,HT.out.set_b _,hs2⟩
 have ur:=CM hs2
 have uJ:=CM hT2
 clear hs2 hT2 vd k0 k1 k2 i0 i1 i2 i3 nf x0 x1 x2 x3 y0 y1 y2 y3
 refine hK _ _ ?_
 clear hK K
 refine wpList_nil ?_
 refine And.intro ?_ ?_
 ·go_simp
 iterate 2 (refine ae rfl rfl (fun K hK=>?_);go_simp;refine hK _ ?_;clear hK K)
 refine ag rfl ?_
 refine wpList_plain rfl (fun K hK=>?_)
 go_simp
 refine hK _ _ ?_
 clear hK K
 refine wpList_nil ?_
 refine And.intro ?_ ?_
 ·go_simp
 refine ah ?_
 go_upto_region 5 with (fail)
 obtain⟨V2,hV2,hs2⟩:=ur.out.hide
 rw [←hV2]
 clear hV2 ur y1' nf'
 obtain⟨i0,i1,i2,i3,nf⟩:=hs2.node_cells uJ.out.hi
 obtain⟨x0,x1,x2,x3,_⟩:=hs2.node_cells uJ.out.ha
 obtain⟨y0,y1,y2,y3,_⟩:=hs2.node_cells uJ.out.hb
 dsimp only at i0 i1 i2 i3 x0 x1 x2 x3 y0 y1 y2 y3
 have vA:=CM hs2
 clear hs2
 have hrk:=vA.out.vals_rd uJ.out.ha
 dsimp only at hrk
 rw [zj.out]at hrk
 have v0:=hF hrk xU.out
 simp only [Nat.zero_add,Nat.zero_mul]at v0
 clear hrk
 go_upto_region 5 with (fail)
 refine af [(0,false,16),(1,false,13),(2,false,13),(3,false,13),(4,false,13),(5,false,12),(6,false,12),(7,false,12),(8,false,12),(9,false,12),(10,false,12),(11,false,12),(12,true,0),(13,true,0),(14,false,16),(15,false,16),(16,true,0)] (by kernel_rfl) (by kernel_rfl) ?_
 iterate 12 (refine ae rfl rfl (fun K hK=>?_);go_simp;refine hK _ ?_;clear hK K)
 refine ag rfl ?_
 refine wpList_plain rfl (fun K hK=>?_)
 go_simp
 refine hK _ _ ?_
 clear hK K
 refine wpList_nil ?_
 have hal:=(vA.out.alloc #[.slice xv.ro xv.rn xv.rc] tW).drew
 obtain⟨W3,hW3,hal⟩:=hal.hide
 rw [←hW3]
 generalize V2.heap.size=bx3 at hal ⊢
 clear hW3 vA v0 i0 i1 i2 i3 nf x0 x1 x2 x3 y0 y1 y2 y3
 obtain⟨i0,i1,i2,i3,nf⟩:=hal.node_cells uJ.out.hi
 obtain⟨x0,x1,x2,x3,_⟩:=hal.node_cells uJ.out.ha
 obtain⟨y0,y1,y2,y3,_⟩:=hal.node_cells uJ.out.hb
 dsimp only at i0 i1 i2 i3 x0 x1 x2 x3 y0 y1 y2 y3
 have hrk:=hal.vals_rd uJ.out.ha
 dsimp only at hrk
 rw [zj.out]at hrk
 have v0:=hF hrk xU.out
 simp only [Nat.zero_add,Nat.zero_mul]at v0
 clear hrk
 have vd:=CM hal
 clear hal
 refine And.intro ?_ ?_
 ·go_simp
 refine ag rfl ?_
 refine au rfl (fun K hK=>?_)
 go_simp
 refine(TreeS.ins_vals (q:=0) (x:=xv) vd.out uJ.out.hb (Nat.zero_le _) (by show(my.vals.length+1)*24≤_;rw [wU.out];omega)).mono ?_
 rintro e3 w3 ⟨o3,c3,rfl,y1',nf',hs3⟩
 obtain⟨ns3,hT3,hs3⟩:∃ns3,Tri ns ns3 i a b (⟨.slice (some ⟨ikg,0,none⟩) mi.keys.length ikc,ivv,.slice (some ⟨idg,0,none⟩) mi.kids.length idc⟩,mi) (⟨.slice (some ⟨xkg,0,none⟩) (q+1) xkc,.slice (some ⟨xvg,0,none⟩) (q+1) xvc,xdv⟩,mx) (⟨.slice o2 (my.keys.length+1) c2,.slice o3 (my.vals.length+1) c3,ydv⟩,{ my with keys:=aU my.keys 0 xk,vals:=aU my.vals 0 xv })∧TreeS B D _ t (.slice (some ⟨g,0,none⟩) N cn) fv ns3 T.free T.k l:=⟨_,uJ.out.set_b _,hs3⟩
 have ut:=CM hs3
 have uM:=CM hT3
 clear hs3 hT3 vd v0 i0 i1 i2 i3 nf x0 x1 x2 x3 y0 y1 y2 y3
 refine hK _ _ ?_
 clear hK K
 refine wpList_nil ?_
 refine And.intro ?_ ?_
 ·go_simp
 iterate 2 (refine ae rfl rfl (fun K hK=>?_);go_simp;refine hK _ ?_;clear hK K)
 refine ag rfl ?_
 refine wpList_plain rfl (fun K hK=>?_)
 go_simp
 refine hK _ _ ?_
 clear hK K
 refine wpList_nil ?_
 refine And.intro ?_ ?_
 ·go_simp
 refine ah ?_
 go_upto_region 6 with (fail)
 obtain⟨V3,hV3,hs3⟩:=ut.out.hide
 rw [←hV3]
 clear hV3 ut y1' nf'
 obtain⟨i0,i1,i2,i3,nf⟩:=hs3.node_cells uM.out.hi
 obtain⟨x0,x1,x2,x3,_⟩:=hs3.node_cells uM.out.ha
 obtain⟨y0,y1,y2,y3,_⟩:=hs3.node_cells uM.out.hb
 dsimp only at i0 i1 i2 i3 x0 x1 x2 x3 y0 y1 y2 y3
 have vS:=CM hs3
 clear hs3
 have hs4:=TreeS.cut_vals (m:=q) vS.out uM.out.ha rfl (by show q≤mx.vals.length;rw [zj.out];omega)
 go_upto_region 7 with (fail)
 obtain⟨ns4,hT4,hs4⟩:∃ns4,Tri ns ns4 i a b (⟨.slice (some ⟨ikg,0,none⟩) mi.keys.length ikc,ivv,.slice (some ⟨idg,0,none⟩) mi.kids.length idc⟩,mi) (⟨.slice (some ⟨xkg,0,none⟩) (q+1) xkc,.slice (some ⟨xvg,0,none⟩) q q,xdv⟩,{ mx with vals:=mx.vals.take q }) (⟨.slice o2 (my.keys.length+1) c2,.slice o3 (my.vals.length+1) c3,ydv⟩,{ my with keys:=aU my.keys 0 xk,vals:=aU my.vals 0 xv })∧TreeS B D _ t (.slice (some ⟨g,0,none⟩) N cn) fv ns4 T.free T.k l:=⟨_,uM.out.set_a _,hs4⟩
 have uZ:=CM hT4
 clear hT4
 obtain⟨V4,hV4,hs4⟩:=hs4.hide
 rw [←hV4]
 clear hV4 vS i0 i1 i2 i3 nf x0 x1 x2 x3 y0 y1 y2 y3
 obtain⟨i0,i1,i2,i3,nf⟩:=hs4.node_cells uZ.out.hi
 obtain⟨x0,x1,x2,x3,_⟩:=hs4.node_cells uZ.out.ha
 obtain⟨y0,y1,y2,y3,_⟩:=hs4.node_cells uZ.out.hb
 dsimp only at i0 i1 i2 i3 x0 x1 x2 x3 y0 y1 y2 y3
 have v4:=CM hs4
 clear hs4
 obtain⟨ykg,ykc2,hyk2,_,_⟩:=aE (Sat.own (v4.out.focus uZ.out.hb) 0 rfl) (by show 0<(aU my.keys 0 xk).length;rw [bO];omega)
 dsimp only at hyk2
 rw [bO]at hyk2
 rw [Value.slice.injEq]at hyk2
 obtain⟨rfl,-,rfl⟩:=hyk2
 have hy0:(0:Int)<(my.keys.length:Int)+1:=by omega
 have hro:=Sat.own (v4.out.focus uZ.out.hi) 0 rfl
 dsimp only at hro
 obtain⟨_,_,hrr⟩:=hro.row
 have pf:=hrr.frozen
 clear hro hrr
 have hrk:=v4.out.keys_rd uZ.out.hb
 dsimp only at hrk
 rw [bO]at hrk
 obtain⟨k0,k1,k2⟩:=aM hrk (show(aU my.keys 0 xk)[0]?=some xk by simp [aU])
 simp only [Nat.zero_add,Nat.zero_mul]at k0 k1 k2
 clear hrk
 have hrk:=v4.out.keys_rd uZ.out.hi
 dsimp only at hrk
 obtain⟨j0,j1,j2⟩:=aM hrk wZ.out
 simp only [Nat.zero_add,Nat.zero_mul]at j0 j1 j2
 clear hrk
 go_upto_region 7 with (fail)
 have hs5:=(v4.out.key_set uZ.out.hi rfl C xk (by show C<mi.keys.length;omega)).drew
 obtain⟨ns5,hT5,hs5⟩:∃ns5,Tri ns ns5 i a b (⟨.slice (some ⟨ikg,0,none⟩) mi.keys.length ikc,ivv,.slice (some ⟨idg,0,none⟩) mi.kids.length idc⟩,{ mi with keys:=mi.keys.set C xk }) (⟨.slice (some ⟨xkg,0,none⟩) (q+1) xkc,.slice (some ⟨xvg,0,none⟩) q q,xdv⟩,{ mx with vals:=mx.vals.take q }) (⟨.slice (some ⟨ykg,0,none⟩) (my.keys.length+1) c2,.slice o3 (my.vals.length+1) c3,ydv⟩,{ my with keys:=aU my.keys 0 xk,vals:=aU my.vals 0 xv })∧TreeS B D _ t (.slice (some ⟨g,0,none⟩) N cn) fv ns5 T.free T.k l:=⟨_,uZ.out.set_i _,hs5⟩
 have uA:=CM hs5
 have uR:=CM hT5
 clear hs5 hT5
 refine af [(0,false,13),(1,false,13),(2,false,13),(3,false,13),(4,false,13),(5,false,13),(6,false,13),(7,false,13),(8,false,13),(9,false,13),(10,false,13),(11,false,13),(12,false,13),(13,true,0)] (by kernel_rfl) (by kernel_rfl) ?_
 iterate 13 (refine ae rfl rfl (fun K hK=>?_);go_simp;refine hK _ ?_;clear hK K)
 refine ag rfl ?_
 refine wpList_plain rfl (fun K hK=>?_)
 go_simp
 refine hK _ _ ?_
 clear hK K
 refine wpList_nil ?_
 refine And.intro ?_ ?_
 ·go_simp
 refine ah ?_
 clear v4 k0 k1 k2 j0 j1 j2 pf i0 i1 i2 i3 nf x0 x1 x2 x3 y0 y1 y2 y3
 go_upto_region 12 with (fail)
 obtain⟨V5,hV5,hs5⟩:=uA.out.hide
 rw [←hV5]
 clear hV5 uA
 obtain⟨i0,i1,i2,i3,nf⟩:=hs5.node_cells uR.out.hi
 obtain⟨x0,x1,x2,x3,_⟩:=hs5.node_cells uR.out.ha
 obtain⟨y0,y1,y2,y3,_⟩:=hs5.node_cells uR.out.hb
 dsimp only at i0 i1 i2 i3 x0 x1 x2 x3 y0 y1 y2 y3
 have wt:=CM hs5
 clear hs5
 have hs6:=TreeS.cut_keys (m:=q) wt.out uR.out.ha rfl (by show q≤mx.keys.length;rw [HXL.out];omega)
 go_wp2_with (fail)
 obtain⟨ns6,hT6,hs6⟩:∃ns6,Tri ns ns6 i a b (⟨.slice (some ⟨ikg,0,none⟩) mi.keys.length ikc,ivv,.slice (some ⟨idg,0,none⟩) mi.kids.length idc⟩,{ mi with keys:=mi.keys.set C xk }) (⟨.slice (some ⟨xkg,0,none⟩) q q,.slice (some ⟨xvg,0,none⟩) q q,xdv⟩,{ mx with vals:=mx.vals.take q,keys:=mx.keys.take q }) (⟨.slice (some ⟨ykg,0,none⟩) (my.keys.length+1) c2,.slice o3 (my.vals.length+1) c3,ydv⟩,{ my with keys:=aU my.keys 0 xk,vals:=aU my.vals 0 xv })∧TreeS B D _ t (.slice (some ⟨g,0,none⟩) N cn) fv ns6 T.free T.k l:=⟨_,uR.out.set_a _,hs6⟩
 have wu:=CM hT6
 clear hT6
 go_end0
 exact⟨rfl,_,_,_,wu.out.done uL.out,hs6⟩
end Go.Proofs.YtdobimafhbfkhaaGreat
