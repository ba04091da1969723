/- Joined texts: The tree: contract of join, at leaves (printed by genmend.py). The tree: contract of join, at inner nodes (printed by genmend.py). The tree: contract of mend (printed by genmend2.py). The tree: contract of remove. -/
import Derived.Test.YtdobimafhbfkhaaGreatOB27
import Derived.Test.YtdobimafhbfkhaaGreatOB28
set_option maxHeartbeats 64000000
namespace Go.Proofs.YtdobimafhbfkhaaGreat
open Go.ChangeShapes Go.WideShapes Go.ChangeAt Go.RowKit
set_option maxRecDepth 100000
set_option linter.unusedSimpArgs false
theorem qT {B w:World}{D:PH}{t:Nat}{T:TM}{l:List HP}{i C a b q:Nat}{mi mx my:NodeM}{sk:Val}(hi:T.nodes[i]?=some mi)(hx:T.nodes[a]?=some mx)(hy:T.nodes[b]?=some my)(hia:i≠a)(hib:i≠b)(hab:a≠b)(hca:mi.kids[C]?=some a)(hcb:mi.kids[C+1]?=some b)(hkC:C<mi.keys.length)(hmb:mi.kids.length≤1000)(hlx:mx.leaf=true)(hik:mi.keys.length=q+1)(hid:mi.kids.length=q+2)
  (hxb:mx.keys.length≤1000) (hxv:mx.vals.length≤1000) (hxd:mx.kids.length≤1000) (hyb:my.keys.length≤1000) (hyv:my.vals.length≤1000) (hyd:my.kids.length≤1000) (hsk:mi.keys[C]?=some sk) (hnb:T.nodes.length≤1000000) (hfb:T.free.length≤1000000) (h:TreeA B D w t T l) :
  Calls Tryz.prog 134 #[.pointer (some ⟨t,0,none⟩),.int .i64 i,.int .i64 (C:Int)] w fun e w'=>e = .returned (.tuple #[]) ∧
   TreeA B D w' t ((T.tri i a b { mi with keys:=aP mi.keys C,kids:=aP mi.kids (C+1) } { mx with keys:=mx.keys++my.keys,vals:=mx.vals++my.vals,kids:=mx.kids++my.kids } my).give b) l:=by
 obtain⟨nv,fv,ns,hns,hs⟩:=h
 obtain⟨⟨ikv,ivv,idv⟩,hpi⟩:=aI hns hi
 obtain⟨⟨xkv,xvv,xdv⟩,hpx⟩:=aI hns hx
 obtain⟨⟨ykv,yvv,ydv⟩,hpy⟩:=aI hns hy
 have hTr:Tri ns ns i a b _ _ _:=⟨hpi,hpx,hpy,fun _ _ _ _=>rfl,rfl,hia,hib,hab⟩
 obtain⟨lt1,lt2,lt3⟩:=hTr.lt
 obtain⟨g,cn,rfl,_,hcm⟩:=hs.nv_some (by omega)
 unfold maxLen at hcm
 have hclt:=(List.getElem?_eq_some_iff.1 hcb).1
 obtain⟨ikg,ikc,hikv,hikc,_⟩:=aD (Sat.own (hs.focus hpi) 0 rfl) (by show 0<mi.keys.length;omega)
 obtain⟨idg,idc,hidv,_,_⟩:=aD (Sat.own (hs.focus hpi) 2 rfl) (by show 0<mi.kids.length;omega)
 obtain⟨xko,xkc,hxkv⟩:=(hs.focus hpx).own_shape
 obtain⟨xvo,xvc,hxvv⟩:=(hs.focus hpx).drop.own_shape
 obtain⟨xdo,xdc,hxdv⟩:=(hs.focus hpx).drop.drop.own_shape
 obtain⟨yko,ykc,hykv⟩:=(hs.focus hpy).own_shape
 obtain⟨yvo,yvc,hyvv⟩:=(hs.focus hpy).drop.own_shape
 obtain⟨ydo,ydc,hydv⟩:=(hs.focus hpy).drop.drop.own_shape
 dsimp only at hikv hidv hykv hyvv hydv hxkv hxvv hxdv hikc
 have hnl:T.nodes.length=ns.length:=by rw [←hns,List.length_map]
 subst hikv hidv hykv hyvv hydv hxkv hxvv hxdv
 generalize hN:ns.length=N at *
 have hib1:(i:Int)<(N:Int):=by omega
 have hab1:(a:Int)<(N:Int):=by omega
 have hbb1:(b:Int)<(N:Int):=by omega
 have hC1:(C:Int)<(mi.kids.length:Int):=by omega
 have hC2:(C:Int)+1<(mi.kids.length:Int):=by omega
 have hC3:(C:Int)<(mi.keys.length:Int):=by omega
 have hwC:IntKind.i64.wrap ((C:Int)+1-1)=(C:Int):=by rw [bU _ (by omega) (by omega)];omega
 have hwC0:IntKind.i64.wrap (C:Int)=(C:Int):=bU _ (by omega) (by omega)
 have hwq0:IntKind.i64.wrap (q:Int)=(q:Int):=bU _ (by omega) (by omega)
 have hwC1:IntKind.i64.wrap ((C:Int)+1)=(C:Int)+1:=bU _ (by omega) (by omega)
 have hwC2:IntKind.i64.wrap ((C:Int)+2)=(C:Int)+1+1:=by rw [bU _ (by omega) (by omega)];omega
 have hwq:IntKind.i64.wrap ((q:Int)+1-1)=(q:Int):=by rw [bU _ (by omega) (by omega)];omega
 have hwq1:IntKind.i64.wrap ((q:Int)+1)=(q:Int)+1:=bU _ (by omega) (by omega)
 have hqi:(q:Int)<(q:Int)+1:=by omega
 have hq01:0≤(q:Int)+1:=by omega
 have hC01:0≤(C:Int)+1:=by omega
 obtain⟨t0,t1,t2,t3,t4,tf⟩:=hs.tcells
 obtain⟨i0,i1,i2,i3,nf⟩:=hs.node_cells hTr.hi
 obtain⟨x0,x1,x2,x3,_⟩:=hs.node_cells hTr.ha
 obtain⟨y0,y1,y2,y3,_⟩:=hs.node_cells hTr.hb
 have hca1:=bu (hs.kids_rd hpi) hca
 have hcb1:=bu (hs.kids_rd hpi) hcb
 dsimp only at i0 i1 i2 i3 x0 x1 x2 x3 y0 y1 y2 y3 hca1 hcb1
 have HS:=B5 hs
 have HT:=B5 hTr
 have uk:=B5 hns
 have wF:=B5 hlx
 have zt:=B5 hik
 have Aw:=B5 hid
 have we:=B5 hsk
 have yX:=B5 hnb
 have Ay:=B5 hfb
 have wh:=B5 hnl
 clear hlx hik hid hsk hnb hfb hnl
 clear hs hTr hns hi hx hy hia hib hab hca hcb hpi hpx hpy hN
 push_cast
 go_enter Tryz.func134,Tryz.ntmps134
 go_upto_region 2 with (fail)
 go_quiet (fail)
 have hs1:=HS.out.kept ((Kept.refl (fun _=>False) w).drewN nq)
 obtain⟨W1,hW1⟩:∃W1,W1=w.drewN nq:=⟨_,rfl⟩
 rw [←hW1]at hs1 ⊢
 clear hW1 HS t0 t1 t2 t3 t4 tf i0 i1 i2 i3 nf x0 x1 x2 x3 y0 y1 y2 y3 hca1 hcb1
 obtain⟨i0,i1,i2,i3,nf⟩:=hs1.node_cells HT.out.hi
 obtain⟨x0,x1,x2,x3,_⟩:=hs1.node_cells HT.out.ha
 obtain⟨y0,y1,y2,y3,_⟩:=hs1.node_cells HT.out.hb
 dsimp only at i0 i1 i2 i3 x0 x1 x2 x3 y0 y1 y2 y3
 have tD:=B5 hs1
 clear hs1
 rw [wF.out]at x0
 have had:=tD.out.drew
 have hrd:=had.keys_rd HT.out.hb
 go_upto_region 5 with (fail)
 refine af [(0,false,12),(1,false,9),(2,false,9),(3,false,9),(4,false,9),(5,false,9),(6,false,9),(7,false,9),(8,false,9),(9,true,0),(10,false,12),(11,false,12),(12,true,0)] (by kernel_rfl) (by kernel_rfl) ?_
 iterate 9 (refine ae rfl rfl (fun K hK=>?_);go_simp;refine hK _ ?_;clear hK K)
 refine ah rfl ?_
 refine cZ rfl _ _ rfl (new:=my.keys) had HT.out.ha rfl rfl hrd (by show mx.keys.length+my.keys.length≤10000;omega) ?_
 intro o2 c2 w2 y1' nf' hs2
 obtain⟨ns2,hT2,hs2⟩:∃ns2,Tri ns ns2 i a b (⟨.slice (some ⟨ikg,0,none⟩) mi.keys.length ikc,ivv,.slice (some ⟨idg,0,none⟩) mi.kids.length idc⟩,mi) (⟨.slice o2 (mx.keys.length+my.keys.length) c2,.slice xvo mx.vals.length xvc,.slice xdo mx.kids.length xdc⟩,{ mx with keys:=mx.keys++my.keys }) (⟨.slice yko my.keys.length ykc,.slice yvo my.vals.length yvc,.slice ydo my.kids.length ydc⟩,my)∧TreeS B D _ t (.slice (some ⟨g,0,none⟩) N cn) fv ns2 T.free T.k l:=⟨_,HT.out.set_a _,hs2⟩
 have tL:=B5 hs2
 have uh:=B5 hT2
 clear hs2 hT2 had hrd tD i0 i1 i2 i3 nf x0 x1 x2 x3 y0 y1 y2 y3
 refine wpList_nil ?_
 refine And.intro ?_ ?_
 ·go_simp
 iterate 2 (refine ae rfl rfl (fun K hK=>?_);go_simp;refine hK _ ?_;clear hK K)
 refine ah rfl ?_
 refine wpList_plain rfl (fun K hK=>?_)
 go_simp
 refine hK _ _ ?_
 clear hK K
 refine wpList_nil ?_
 refine And.intro ?_ ?_
 ·go_simp
 refine ai ?_
 go_upto_region 6 with (fail)
 obtain⟨V2,hV2,hs2⟩:=tL.out.hide
 rw [←hV2]
 clear hV2 tL y1' nf'
 obtain⟨i0,i1,i2,i3,nf⟩:=hs2.node_cells uh.out.hi
 obtain⟨x0,x1,x2,x3,_⟩:=hs2.node_cells uh.out.ha
 obtain⟨y0,y1,y2,y3,_⟩:=hs2.node_cells uh.out.hb
 dsimp only at i0 i1 i2 i3 x0 x1 x2 x3 y0 y1 y2 y3
 have ve:=B5 hs2
 clear hs2
 have had:=ve.out.drew
 have hrd:=had.vals_rd uh.out.hb
 go_upto_region 6 with (fail)
 refine af [(0,false,12),(1,false,9),(2,false,9),(3,false,9),(4,false,9),(5,false,9),(6,false,9),(7,false,9),(8,false,9),(9,true,0),(10,false,12),(11,false,12),(12,true,0)] (by kernel_rfl) (by kernel_rfl) ?_
 iterate 9 (refine ae rfl rfl (fun K hK=>?_);go_simp;refine hK _ ?_;clear hK K)
 refine ah rfl ?_
 refine ej rfl _ _ rfl (new:=my.vals) had uh.out.ha rfl rfl hrd (by show mx.vals.length+my.vals.length≤10000;omega) ?_
 intro o3 c3 w3 y1' nf' hs3
 obtain⟨ns3,hT3,hs3⟩:∃ns3,Tri ns ns3 i a b (⟨.slice (some ⟨ikg,0,none⟩) mi.keys.length ikc,ivv,.slice (some ⟨idg,0,none⟩) mi.kids.length idc⟩,mi) (⟨.slice o2 (mx.keys.length+my.keys.length) c2,.slice o3 (mx.vals.length+my.vals.length) c3,.slice xdo mx.kids.length xdc⟩,{ mx with keys:=mx.keys++my.keys,vals:=mx.vals++my.vals }) (⟨.slice yko my.keys.length ykc,.slice yvo my.vals.length yvc,.slice ydo my.kids.length ydc⟩,my)∧TreeS B D _ t (.slice (some ⟨g,0,none⟩) N cn) fv ns3 T.free T.k l:=⟨_,uh.out.set_a _,hs3⟩
 have tH:=B5 hs3
 have um:=B5 hT3
 clear hs3 hT3 had hrd ve i0 i1 i2 i3 nf x0 x1 x2 x3 y0 y1 y2 y3
 refine wpList_nil ?_
 refine And.intro ?_ ?_
 ·go_simp
 iterate 2 (refine ae rfl rfl (fun K hK=>?_);go_simp;refine hK _ ?_;clear hK K)
 refine ah rfl ?_
 refine wpList_plain rfl (fun K hK=>?_)
 go_simp
 refine hK _ _ ?_
 clear hK K
 refine wpList_nil ?_
 refine And.intro ?_ ?_
 ·go_simp
 refine ai ?_
 go_upto_region 7 with (fail)
 obtain⟨V3,hV3,hs3⟩:=tH.out.hide
 rw [←hV3]
 clear hV3 tH y1' nf'
 obtain⟨i0,i1,i2,i3,nf⟩:=hs3.node_cells um.out.hi
 obtain⟨x0,x1,x2,x3,_⟩:=hs3.node_cells um.out.ha
 obtain⟨y0,y1,y2,y3,_⟩:=hs3.node_cells um.out.hb
 dsimp only at i0 i1 i2 i3 x0 x1 x2 x3 y0 y1 y2 y3
 have u8:=B5 hs3
 clear hs3
 have had:=u8.out.drew
 have hrd:=had.kids_rd um.out.hb
 go_upto_region 7 with (fail)
 refine af [(0,false,12),(1,false,9),(2,false,9),(3,false,9),(4,false,9),(5,false,9),(6,false,9),(7,false,9),(8,false,9),(9,true,0),(10,false,12),(11,false,12),(12,true,0)] (by kernel_rfl) (by kernel_rfl) ?_
 iterate 9 (refine ae rfl rfl (fun K hK=>?_);go_simp;refine hK _ ?_;clear hK K)
 refine ah rfl ?_
 refine eo rfl _ _ rfl (new:=my.kids) had um.out.ha rfl rfl hrd (by show mx.kids.length+my.kids.length≤10000;omega) ?_
 intro o4 c4 w4 y1' nf' hs4
 obtain⟨ns4,hT4,hs4⟩:∃ns4,Tri ns ns4 i a b (⟨.slice (some ⟨ikg,0,none⟩) mi.keys.length ikc,ivv,.slice (some ⟨idg,0,none⟩) mi.kids.length idc⟩,mi) (⟨.slice o2 (mx.keys.length+my.keys.length) c2,.slice o3 (mx.vals.length+my.vals.length) c3,.slice o4 (mx.kids.length+my.kids.length) c4⟩,{ mx with keys:=mx.keys++my.keys,vals:=mx.vals++my.vals,kids:=mx.kids++my.kids }) (⟨.slice yko my.keys.length ykc,.slice yvo my.vals.length yvc,.slice ydo my.kids.length ydc⟩,my)∧TreeS B D _ t (.slice (some ⟨g,0,none⟩) N cn) fv ns4 T.free T.k l:=⟨_,um.out.set_a _,hs4⟩
 have tP:=B5 hs4
 have ux:=B5 hT4
 clear hs4 hT4 had hrd u8 i0 i1 i2 i3 nf x0 x1 x2 x3 y0 y1 y2 y3
 refine wpList_nil ?_
 refine And.intro ?_ ?_
 ·go_simp
 iterate 2 (refine ae rfl rfl (fun K hK=>?_);go_simp;refine hK _ ?_;clear hK K)
 refine ah rfl ?_
 refine wpList_plain rfl (fun K hK=>?_)
 go_simp
 refine hK _ _ ?_
 clear hK K
 refine wpList_nil ?_
 refine And.intro ?_ ?_
 ·go_simp
 refine ai ?_
 go_upto_region 8 with (fail)
 obtain⟨V4,hV4,hs4⟩:=tP.out.hide
 rw [←hV4]
 clear hV4 tP y1' nf'
 obtain⟨i0,i1,i2,i3,nf⟩:=hs4.node_cells ux.out.hi
 obtain⟨x0,x1,x2,x3,_⟩:=hs4.node_cells ux.out.ha
 obtain⟨y0,y1,y2,y3,_⟩:=hs4.node_cells ux.out.hb
 dsimp only at i0 i1 i2 i3 x0 x1 x2 x3 y0 y1 y2 y3
 have vf:=B5 hs4
 clear hs4
 have hCq:C≤q:=by have:=zt.out;omega
 go_upto_region 9 with ((go_at_call 119;refine(TreeS.del_keys (q:=C) (n:=q) vf.out ux.out.hi zt.out hCq).mono ?_;rintro e5 w5 ⟨o5,c5,rfl,y1',nf',hs5⟩;have xV:=B5 hs5;clear hs5 i0 i1 i2 i3 nf x0 x1 x2 x3 y0 y1 y2 y3))
 obtain⟨ns5,hT5,hs5⟩:∃ns5,Tri ns ns5 i a b (⟨.slice o5 q c5,ivv,.slice (some ⟨idg,0,none⟩) mi.kids.length idc⟩,{ mi with keys:=aP mi.keys C }) (⟨.slice o2 (mx.keys.length+my.keys.length) c2,.slice o3 (mx.vals.length+my.vals.length) c3,.slice o4 (mx.kids.length+my.kids.length) c4⟩,{ mx with keys:=mx.keys++my.keys,vals:=mx.vals++my.vals,kids:=mx.kids++my.kids }) (⟨.slice yko my.keys.length ykc,.slice yvo my.vals.length yvc,.slice ydo my.kids.length ydc⟩,my)∧TreeS B D _ t (.slice (some ⟨g,0,none⟩) N cn) fv ns5 T.free T.k l:=⟨_,ux.out.set_i _,xV.out⟩
 have ut:=B5 hT5
 clear hT5
 obtain⟨V5,hV5,hs5⟩:=hs5.hide
 rw [←hV5]
 clear hV5 vf xV y1' nf'
 obtain⟨i0,i1,i2,i3,nf⟩:=hs5.node_cells ut.out.hi
 obtain⟨x0,x1,x2,x3,_⟩:=hs5.node_cells ut.out.ha
 obtain⟨y0,y1,y2,y3,_⟩:=hs5.node_cells ut.out.hb
 dsimp only at i0 i1 i2 i3 x0 x1 x2 x3 y0 y1 y2 y3
 have vy:=B5 hs5
 clear hs5
 go_upto_region 10 with ((go_at_call 144;refine(TreeS.del_kids (q:=C+1) (n:=(q+1)) vy.out ut.out.hi Aw.out (by omega)).mono ?_;rintro e6 w6 ⟨o6,c6,rfl,y1',nf',hs6⟩;have yq:=B5 hs6;clear hs6 i0 i1 i2 i3 nf x0 x1 x2 x3 y0 y1 y2 y3))
 obtain⟨ns6,hT6,hs6⟩:∃ns6,Tri ns ns6 i a b (⟨.slice o5 q c5,ivv,.slice o6 (q+1) c6⟩,{ mi with keys:=aP mi.keys C,kids:=aP mi.kids (C+1) }) (⟨.slice o2 (mx.keys.length+my.keys.length) c2,.slice o3 (mx.vals.length+my.vals.length) c3,.slice o4 (mx.kids.length+my.kids.length) c4⟩,{ mx with keys:=mx.keys++my.keys,vals:=mx.vals++my.vals,kids:=mx.kids++my.kids }) (⟨.slice yko my.keys.length ykc,.slice yvo my.vals.length yvc,.slice ydo my.kids.length ydc⟩,my)∧TreeS B D _ t (.slice (some ⟨g,0,none⟩) N cn) fv ns6 T.free T.k l:=⟨_,ut.out.set_i _,yq.out⟩
 have vz:=B5 hT6
 clear hT6
 obtain⟨V6,hV6,hs6⟩:=hs6.hide
 rw [←hV6]
 clear hV6 vy yq y1' nf'
 obtain⟨i0,i1,i2,i3,nf⟩:=hs6.node_cells vz.out.hi
 obtain⟨x0,x1,x2,x3,_⟩:=hs6.node_cells vz.out.ha
 obtain⟨y0,y1,y2,y3,_⟩:=hs6.node_cells vz.out.hb
 dsimp only at i0 i1 i2 i3 x0 x1 x2 x3 y0 y1 y2 y3
 have Aa:=B5 hs6
 clear hs6
 have HG:=B5 (jR (i:=b) (T:=T.tri i a b { mi with keys:=aP mi.keys C,kids:=aP mi.kids (C+1) } { mx with keys:=mx.keys++my.keys,vals:=mx.vals++my.vals,kids:=mx.kids++my.kids } my) (by unfold TM.tri;simp only [List.length_set];rw [wh.out];exact lt3) (by unfold TM.tri;simp only [List.length_set];exact yX.out) Ay.out ⟨_,_,_,vz.out.done uk.out,Aa.out⟩)
 go_wp2_with ((go_at_call 106;refine HG.out.mono ?_;rintro e20 w20 ⟨rfl,ha20⟩;have yr:=B5 ha20;clear ha20))
 go_end0
 exact⟨rfl,yr.out⟩
theorem pg {B w:World}{D:PH}{t:Nat}{T:TM}{l:List HP}{i C a b q:Nat}{mi mx my:NodeM}{sk:Val}(hi:T.nodes[i]?=some mi)(hx:T.nodes[a]?=some mx)(hy:T.nodes[b]?=some my)(hia:i≠a)(hib:i≠b)(hab:a≠b)(hca:mi.kids[C]?=some a)(hcb:mi.kids[C+1]?=some b)(hkC:C<mi.keys.length)(hmb:mi.kids.length≤1000)(hlx:mx.leaf=false)(hik:mi.keys.length=q+1)(hid:mi.kids.length=q+2)
  (hxb:mx.keys.length≤1000) (hxv:mx.vals.length≤1000) (hxd:mx.kids.length≤1000) (hyb:my.keys.length≤1000) (hyv:my.vals.length≤1000) (hyd:my.kids.length≤1000) (hsk:mi.keys[C]?=some sk) (hnb:T.nodes.length≤1000000) (hfb:T.free.length≤1000000) (h:TreeA B D w t T l) :
  Calls Tryz.prog 134 #[.pointer (some ⟨t,0,none⟩),.int .i64 i,.int .i64 (C:Int)] w fun e w'=>e = .returned (.tuple #[]) ∧
   TreeA B D w' t ((T.tri i a b { mi with keys:=aP mi.keys C,kids:=aP mi.kids (C+1) } { mx with keys:=(mx.keys ++ [sk])++my.keys,vals:=mx.vals++my.vals,kids:=mx.kids++my.kids } my).give b) l:=by
 obtain⟨nv,fv,ns,hns,hs⟩:=h
 obtain⟨⟨ikv,ivv,idv⟩,hpi⟩:=aI hns hi
 obtain⟨⟨xkv,xvv,xdv⟩,hpx⟩:=aI hns hx
 obtain⟨⟨ykv,yvv,ydv⟩,hpy⟩:=aI hns hy
 have hTr:Tri ns ns i a b _ _ _:=⟨hpi,hpx,hpy,fun _ _ _ _=>rfl,rfl,hia,hib,hab⟩
 obtain⟨lt1,lt2,lt3⟩:=hTr.lt
 obtain⟨g,cn,rfl,_,hcm⟩:=hs.nv_some (by omega)
 unfold maxLen at hcm
 have hclt:=(List.getElem?_eq_some_iff.1 hcb).1
 obtain⟨ikg,ikc,hikv,hikc,_⟩:=aD (Sat.own (hs.focus hpi) 0 rfl) (by show 0<mi.keys.length;omega)
 obtain⟨idg,idc,hidv,_,_⟩:=aD (Sat.own (hs.focus hpi) 2 rfl) (by show 0<mi.kids.length;omega)
 obtain⟨xko,xkc,hxkv⟩:=(hs.focus hpx).own_shape
 obtain⟨xvo,xvc,hxvv⟩:=(hs.focus hpx).drop.own_shape
 obtain⟨xdo,xdc,hxdv⟩:=(hs.focus hpx).drop.drop.own_shape
 obtain⟨yko,ykc,hykv⟩:=(hs.focus hpy).own_shape
 obtain⟨yvo,yvc,hyvv⟩:=(hs.focus hpy).drop.own_shape
 obtain⟨ydo,ydc,hydv⟩:=(hs.focus hpy).drop.drop.own_shape
 dsimp only at hikv hidv hykv hyvv hydv hxkv hxvv hxdv hikc
 have hnl:T.nodes.length=ns.length:=by rw [←hns,List.length_map]
 subst hikv hidv hykv hyvv hydv hxkv hxvv hxdv
 generalize hN:ns.length=N at *
 have hib1:(i:Int)<(N:Int):=by omega
 have hab1:(a:Int)<(N:Int):=by omega
 have hbb1:(b:Int)<(N:Int):=by omega
 have hC1:(C:Int)<(mi.kids.length:Int):=by omega
 have hC2:(C:Int)+1<(mi.kids.length:Int):=by omega
 have hC3:(C:Int)<(mi.keys.length:Int):=by omega
 have hwC:IntKind.i64.wrap ((C:Int)+1-1)=(C:Int):=by rw [bU _ (by omega) (by omega)];omega
 have hwC0:IntKind.i64.wrap (C:Int)=(C:Int):=bU _ (by omega) (by omega)
 have hwq0:IntKind.i64.wrap (q:Int)=(q:Int):=bU _ (by omega) (by omega)
 have hwC1:IntKind.i64.wrap ((C:Int)+1)=(C:Int)+1:=bU _ (by omega) (by omega)
 have hwC2:IntKind.i64.wrap ((C:Int)+2)=(C:Int)+1+1:=by rw [bU _ (by omega) (by omega)];omega
 have hwq:IntKind.i64.wrap ((q:Int)+1-1)=(q:Int):=by rw [bU _ (by omega) (by omega)];omega
 have hwq1:IntKind.i64.wrap ((q:Int)+1)=(q:Int)+1:=bU _ (by omega) (by omega)
 have hqi:(q:Int)<(q:Int)+1:=by omega
 have hq01:0≤(q:Int)+1:=by omega
 have hC01:0≤(C:Int)+1:=by omega
 obtain⟨t0,t1,t2,t3,t4,tf⟩:=hs.tcells
 obtain⟨i0,i1,i2,i3,nf⟩:=hs.node_cells hTr.hi
 obtain⟨x0,x1,x2,x3,_⟩:=hs.node_cells hTr.ha
 obtain⟨y0,y1,y2,y3,_⟩:=hs.node_cells hTr.hb
 have hca1:=bu (hs.kids_rd hpi) hca
 have hcb1:=bu (hs.kids_rd hpi) hcb
 dsimp only at i0 i1 i2 i3 x0 x1 x2 x3 y0 y1 y2 y3 hca1 hcb1
 have HS:=B5 hs
 have HT:=B5 hTr
 have uk:=B5 hns
 have wF:=B5 hlx
 have zt:=B5 hik
 have Aw:=B5 hid
 have we:=B5 hsk
 have yX:=B5 hnb
 have Ay:=B5 hfb
 have wh:=B5 hnl
 clear hlx hik hid hsk hnb hfb hnl
 clear hs hTr hns hi hx hy hia hib hab hca hcb hpi hpx hpy hN
 push_cast
 go_enter Tryz.func134,Tryz.ntmps134
 go_upto_region 2 with (fail)
 go_quiet (fail)
 have hs1:=HS.out.kept ((Kept.refl (fun _=>False) w).drewN nq)
 obtain⟨W1,hW1⟩:∃W1,W1=w.drewN nq:=⟨_,rfl⟩
 rw [←hW1]at hs1 ⊢
 clear hW1 HS t0 t1 t2 t3 t4 tf i0 i1 i2 i3 nf x0 x1 x2 x3 y0 y1 y2 y3 hca1 hcb1
 obtain⟨i0,i1,i2,i3,nf⟩:=hs1.node_cells HT.out.hi
 obtain⟨x0,x1,x2,x3,_⟩:=hs1.node_cells HT.out.ha
 obtain⟨y0,y1,y2,y3,_⟩:=hs1.node_cells HT.out.hb
 dsimp only at i0 i1 i2 i3 x0 x1 x2 x3 y0 y1 y2 y3
 have tD:=B5 hs1
 clear hs1
 rw [wF.out]at x0
 have hrk:=tD.out.keys_rd HT.out.hi
 dsimp only at hrk
 obtain⟨j0,j1,j2⟩:=aN hrk we.out
 simp only [Nat.zero_add,Nat.zero_mul]at j0 j1 j2
 clear hrk
 go_upto_region 4 with (fail)
 refine af [(0,false,16),(1,false,13),(2,false,13),(3,false,13),(4,false,13),(5,false,12),(6,false,12),(7,false,12),(8,false,12),(9,false,12),(10,false,12),(11,false,12),(12,true,0),(13,true,0),(14,false,16),(15,false,16),(16,true,0)] (by kernel_rfl) (by kernel_rfl) ?_
 iterate 12 (refine ae rfl rfl (fun K hK=>?_);go_simp;refine hK _ ?_;clear hK K)
 refine ah rfl ?_
 refine wpList_plain rfl (fun K hK=>?_)
 go_simp
 refine hK _ _ ?_
 clear hK K
 refine wpList_nil ?_
 have hal:=(tD.out.alloc #[.bool sk.t,.int .i64 sk.n,.string sk.s] tV).drew
 have hrb:=kD (size:=3) (cs:=Val.cells sk) (Sat.blk hal 4 rfl) rfl
 have hal2:=hal.drop
 obtain⟨W2,hW2,hal2⟩:=hal2.hide
 rw [←hW2]at hrb ⊢
 generalize W1.heap.size=bx2 at hrb ⊢
 clear hal hW2 tD j0 j1 j2 i0 i1 i2 i3 nf x0 x1 x2 x3 y0 y1 y2 y3
 obtain⟨i0,i1,i2,i3,nf⟩:=hal2.node_cells HT.out.hi
 obtain⟨x0,x1,x2,x3,_⟩:=hal2.node_cells HT.out.ha
 obtain⟨y0,y1,y2,y3,_⟩:=hal2.node_cells HT.out.hb
 dsimp only at i0 i1 i2 i3 x0 x1 x2 x3 y0 y1 y2 y3
 have hrk:=hal2.keys_rd HT.out.hi
 dsimp only at hrk
 obtain⟨j0,j1,j2⟩:=aN hrk we.out
 simp only [Nat.zero_add,Nat.zero_mul]at j0 j1 j2
 clear hrk
 have uz:=B5 hal2
 have vx:=B5 hrb
 clear hal2 hrb
 refine And.intro ?_ ?_
 ·go_simp
 refine ah rfl ?_
 refine cZ rfl _ _ rfl (new:=[sk]) uz.out HT.out.ha rfl rfl (by rw [List.flatMap_singleton];exact vx.out) (by show mx.keys.length+1≤10000;omega) ?_
 intro o2 c2 w2 y1' nf' hs2
 rw [List.length_singleton]at hs2
 obtain⟨ns2,hT2,hs2⟩:∃ns2,Tri ns ns2 i a b (⟨.slice (some ⟨ikg,0,none⟩) mi.keys.length ikc,ivv,.slice (some ⟨idg,0,none⟩) mi.kids.length idc⟩,mi) (⟨.slice o2 (mx.keys.length+1) c2,.slice xvo mx.vals.length xvc,.slice xdo mx.kids.length xdc⟩,{ mx with keys:=mx.keys ++ [sk] }) (⟨.slice yko my.keys.length ykc,.slice yvo my.vals.length yvc,.slice ydo my.kids.length ydc⟩,my)∧TreeS B D _ t (.slice (some ⟨g,0,none⟩) N cn) fv ns2 T.free T.k l:=⟨_,HT.out.set_a _,hs2⟩
 have tL:=B5 hs2
 have uh:=B5 hT2
 clear hs2 hT2 uz vx j0 j1 j2 i0 i1 i2 i3 nf x0 x1 x2 x3 y0 y1 y2 y3
 refine wpList_nil ?_
 refine And.intro ?_ ?_
 ·go_simp
 iterate 2 (refine ae rfl rfl (fun K hK=>?_);go_simp;refine hK _ ?_;clear hK K)
 refine ah rfl ?_
 refine wpList_plain rfl (fun K hK=>?_)
 go_simp
 refine hK _ _ ?_
 clear hK K
 refine wpList_nil ?_
 refine And.intro ?_ ?_
 ·go_simp
 refine ai ?_
 go_upto_region 5 with (fail)
 obtain⟨V2,hV2,hs2⟩:=tL.out.hide
 rw [←hV2]
 clear hV2 tL y1' nf'
 obtain⟨i0,i1,i2,i3,nf⟩:=hs2.node_cells uh.out.hi
 obtain⟨x0,x1,x2,x3,_⟩:=hs2.node_cells uh.out.ha
 obtain⟨y0,y1,y2,y3,_⟩:=hs2.node_cells uh.out.hb
 dsimp only at i0 i1 i2 i3 x0 x1 x2 x3 y0 y1 y2 y3
 have ve:=B5 hs2
 clear hs2
 obtain⟨kx,hkx⟩:∃kx,mx.keys ++ [sk]=kx:=⟨_,rfl⟩
 have hkl:kx.length=mx.keys.length+1:=by rw [←hkx];simp
 rw [hkx]at uh
 have BE:=B5 hkx
 have Az:=B5 hkl
 clear hkx hkl
 have had:=ve.out.drew
 have hrd:=had.keys_rd uh.out.hb
 go_upto_region 5 with (fail)
 refine af [(0,false,12),(1,false,9),(2,false,9),(3,false,9),(4,false,9),(5,false,9),(6,false,9),(7,false,9),(8,false,9),(9,true,0),(10,false,12),(11,false,12),(12,true,0)] (by kernel_rfl) (by kernel_rfl) ?_
 iterate 9 (refine ae rfl rfl (fun K hK=>?_);go_simp;refine hK _ ?_;clear hK K)
 refine ah rfl ?_
 refine cZ rfl _ _ rfl (new:=my.keys) had uh.out.ha rfl rfl hrd (by show kx.length+my.keys.length≤10000;rw [Az.out];omega) ?_
 intro o3 c3 w3 y1' nf' hs3
 obtain⟨ns3,hT3,hs3⟩:∃ns3,Tri ns ns3 i a b (⟨.slice (some ⟨ikg,0,none⟩) mi.keys.length ikc,ivv,.slice (some ⟨idg,0,none⟩) mi.kids.length idc⟩,mi) (⟨.slice o3 (kx.length+my.keys.length) c3,.slice xvo mx.vals.length xvc,.slice xdo mx.kids.length xdc⟩,{ mx with keys:=kx++my.keys }) (⟨.slice yko my.keys.length ykc,.slice yvo my.vals.length yvc,.slice ydo my.kids.length ydc⟩,my)∧TreeS B D _ t (.slice (some ⟨g,0,none⟩) N cn) fv ns3 T.free T.k l:=⟨_,uh.out.set_a _,hs3⟩
 have tH:=B5 hs3
 have um:=B5 hT3
 clear hs3 hT3 had hrd ve i0 i1 i2 i3 nf x0 x1 x2 x3 y0 y1 y2 y3
 refine wpList_nil ?_
 refine And.intro ?_ ?_
 ·go_simp
 iterate 2 (refine ae rfl rfl (fun K hK=>?_);go_simp;refine hK _ ?_;clear hK K)
 refine ah rfl ?_
 refine wpList_plain rfl (fun K hK=>?_)
 go_simp
 refine hK _ _ ?_
 clear hK K
 refine wpList_nil ?_
 refine And.intro ?_ ?_
 ·go_simp
 refine ai ?_
 go_upto_region 6 with (fail)
 obtain⟨V3,hV3,hs3⟩:=tH.out.hide
 rw [←hV3]
 clear hV3 tH y1' nf'
 obtain⟨i0,i1,i2,i3,nf⟩:=hs3.node_cells um.out.hi
 obtain⟨x0,x1,x2,x3,_⟩:=hs3.node_cells um.out.ha
 obtain⟨y0,y1,y2,y3,_⟩:=hs3.node_cells um.out.hb
 dsimp only at i0 i1 i2 i3 x0 x1 x2 x3 y0 y1 y2 y3
 have u8:=B5 hs3
 clear hs3
 have had:=u8.out.drew
 have hrd:=had.vals_rd um.out.hb
 go_upto_region 6 with (fail)
 refine af [(0,false,12),(1,false,9),(2,false,9),(3,false,9),(4,false,9),(5,false,9),(6,false,9),(7,false,9),(8,false,9),(9,true,0),(10,false,12),(11,false,12),(12,true,0)] (by kernel_rfl) (by kernel_rfl) ?_
 iterate 9 (refine ae rfl rfl (fun K hK=>?_);go_simp;refine hK _ ?_;clear hK K)
 refine ah rfl ?_
 refine ej rfl _ _ rfl (new:=my.vals) had um.out.ha rfl rfl hrd (by show mx.vals.length+my.vals.length≤10000;omega) ?_
 intro o4 c4 w4 y1' nf' hs4
 obtain⟨ns4,hT4,hs4⟩:∃ns4,Tri ns ns4 i a b (⟨.slice (some ⟨ikg,0,none⟩) mi.keys.length ikc,ivv,.slice (some ⟨idg,0,none⟩) mi.kids.length idc⟩,mi) (⟨.slice o3 (kx.length+my.keys.length) c3,.slice o4 (mx.vals.length+my.vals.length) c4,.slice xdo mx.kids.length xdc⟩,{ mx with keys:=kx++my.keys,vals:=mx.vals++my.vals }) (⟨.slice yko my.keys.length ykc,.slice yvo my.vals.length yvc,.slice ydo my.kids.length ydc⟩,my)∧TreeS B D _ t (.slice (some ⟨g,0,none⟩) N cn) fv ns4 T.free T.k l:=⟨_,um.out.set_a _,hs4⟩
 have tP:=B5 hs4
 have ux:=B5 hT4
 clear hs4 hT4 had hrd u8 i0 i1 i2 i3 nf x0 x1 x2 x3 y0 y1 y2 y3
 refine wpList_nil ?_
 refine And.intro ?_ ?_
 ·go_simp
 iterate 2 (refine ae rfl rfl (fun K hK=>?_);go_simp;refine hK _ ?_;clear hK K)
 refine ah rfl ?_
 refine wpList_plain rfl (fun K hK=>?_)
 go_simp
 refine hK _ _ ?_
 clear hK K
 refine wpList_nil ?_
 refine And.intro ?_ ?_
 ·go_simp
 refine ai ?_
 go_upto_region 7 with (fail)
 obtain⟨V4,hV4,hs4⟩:=tP.out.hide
 rw [←hV4]
 clear hV4 tP y1' nf'
 obtain⟨i0,i1,i2,i3,nf⟩:=hs4.node_cells ux.out.hi
 obtain⟨x0,x1,x2,x3,_⟩:=hs4.node_cells ux.out.ha
 obtain⟨y0,y1,y2,y3,_⟩:=hs4.node_cells ux.out.hb
 dsimp only at i0 i1 i2 i3 x0 x1 x2 x3 y0 y1 y2 y3
 have vf:=B5 hs4
 clear hs4
 have had:=vf.out.drew
 have hrd:=had.kids_rd ux.out.hb
 go_upto_region 7 with (fail)
 refine af [(0,false,12),(1,false,9),(2,false,9),(3,false,9),(4,false,9),(5,false,9),(6,false,9),(7,false,9),(8,false,9),(9,true,0),(10,false,12),(11,false,12),(12,true,0)] (by kernel_rfl) (by kernel_rfl) ?_
 iterate 9 (refine ae rfl rfl (fun K hK=>?_);go_simp;refine hK _ ?_;clear hK K)
 refine ah rfl ?_
 refine eo rfl _ _ rfl (new:=my.kids) had ux.out.ha rfl rfl hrd (by show mx.kids.length+my.kids.length≤10000;omega) ?_
 intro o5 c5 w5 y1' nf' hs5
 obtain⟨ns5,hT5,hs5⟩:∃ns5,Tri ns ns5 i a b (⟨.slice (some ⟨ikg,0,none⟩) mi.keys.length ikc,ivv,.slice (some ⟨idg,0,none⟩) mi.kids.length idc⟩,mi) (⟨.slice o3 (kx.length+my.keys.length) c3,.slice o4 (mx.vals.length+my.vals.length) c4,.slice o5 (mx.kids.length+my.kids.length) c5⟩,{ mx with keys:=kx++my.keys,vals:=mx.vals++my.vals,kids:=mx.kids++my.kids }) (⟨.slice yko my.keys.length ykc,.slice yvo my.vals.length yvc,.slice ydo my.kids.length ydc⟩,my)∧TreeS B D _ t (.slice (some ⟨g,0,none⟩) N cn) fv ns5 T.free T.k l:=⟨_,ux.out.set_a _,hs5⟩
 have tU:=B5 hs5
 have ut:=B5 hT5
 clear hs5 hT5 had hrd vf i0 i1 i2 i3 nf x0 x1 x2 x3 y0 y1 y2 y3
 refine wpList_nil ?_
 refine And.intro ?_ ?_
 ·go_simp
 iterate 2 (refine ae rfl rfl (fun K hK=>?_);go_simp;refine hK _ ?_;clear hK K)
 refine ah rfl ?_
 refine wpList_plain rfl (fun K hK=>?_)
 go_simp
 refine hK _ _ ?_
 clear hK K
 refine wpList_nil ?_
 refine And.intro ?_ ?_
 ·go_simp
 refine ai ?_
 go_upto_region 8 with (fail)
 obtain⟨V5,hV5,hs5⟩:=tU.out.hide
 rw [←hV5]
 clear hV5 tU y1' nf'
 obtain⟨i0,i1,i2,i3,nf⟩:=hs5.node_cells ut.out.hi
 obtain⟨x0,x1,x2,x3,_⟩:=hs5.node_cells ut.out.ha
 obtain⟨y0,y1,y2,y3,_⟩:=hs5.node_cells ut.out.hb
 dsimp only at i0 i1 i2 i3 x0 x1 x2 x3 y0 y1 y2 y3
 have vy:=B5 hs5
 clear hs5
 have hCq:C≤q:=by have:=zt.out;omega
 go_upto_region 9 with ((go_at_call 119;refine(TreeS.del_keys (q:=C) (n:=q) vy.out ut.out.hi zt.out hCq).mono ?_;rintro e6 w6 ⟨o6,c6,rfl,y1',nf',hs6⟩;have yq:=B5 hs6;clear hs6 i0 i1 i2 i3 nf x0 x1 x2 x3 y0 y1 y2 y3))
 obtain⟨ns6,hT6,hs6⟩:∃ns6,Tri ns ns6 i a b (⟨.slice o6 q c6,ivv,.slice (some ⟨idg,0,none⟩) mi.kids.length idc⟩,{ mi with keys:=aP mi.keys C }) (⟨.slice o3 (kx.length+my.keys.length) c3,.slice o4 (mx.vals.length+my.vals.length) c4,.slice o5 (mx.kids.length+my.kids.length) c5⟩,{ mx with keys:=kx++my.keys,vals:=mx.vals++my.vals,kids:=mx.kids++my.kids }) (⟨.slice yko my.keys.length ykc,.slice yvo my.vals.length yvc,.slice ydo my.kids.length ydc⟩,my)∧TreeS B D _ t (.slice (some ⟨g,0,none⟩) N cn) fv ns6 T.free T.k l:=⟨_,ut.out.set_i _,yq.out⟩
 have vz:=B5 hT6
 clear hT6
 obtain⟨V6,hV6,hs6⟩:=hs6.hide
 rw [←hV6]
 clear hV6 vy yq y1' nf'
 obtain⟨i0,i1,i2,i3,nf⟩:=hs6.node_cells vz.out.hi
 obtain⟨x0,x1,x2,x3,_⟩:=hs6.node_cells vz.out.ha
 obtain⟨y0,y1,y2,y3,_⟩:=hs6.node_cells vz.out.hb
 dsimp only at i0 i1 i2 i3 x0 x1 x2 x3 y0 y1 y2 y3
 have Aa:=B5 hs6
 clear hs6
 go_upto_region 10 with ((go_at_call 144;refine(TreeS.del_kids (q:=C+1) (n:=(q+1)) Aa.out vz.out.hi Aw.out (by omega)).mono ?_;rintro e7 w7 ⟨o7,c7,rfl,y1',nf',hs7⟩;have Bb:=B5 hs7;clear hs7 i0 i1 i2 i3 nf x0 x1 x2 x3 y0 y1 y2 y3))
 obtain⟨ns7,hT7,hs7⟩:∃ns7,Tri ns ns7 i a b (⟨.slice o6 q c6,ivv,.slice o7 (q+1) c7⟩,{ mi with keys:=aP mi.keys C,kids:=aP mi.kids (C+1) }) (⟨.slice o3 (kx.length+my.keys.length) c3,.slice o4 (mx.vals.length+my.vals.length) c4,.slice o5 (mx.kids.length+my.kids.length) c5⟩,{ mx with keys:=kx++my.keys,vals:=mx.vals++my.vals,kids:=mx.kids++my.kids }) (⟨.slice yko my.keys.length ykc,.slice yvo my.vals.length yvc,.slice ydo my.kids.length ydc⟩,my)∧TreeS B D _ t (.slice (some ⟨g,0,none⟩) N cn) fv ns7 T.free T.k l:=⟨_,vz.out.set_i _,Bb.out⟩
 have xI:=B5 hT7
 clear hT7
 obtain⟨V7,hV7,hs7⟩:=hs7.hide
 rw [←hV7]
 clear hV7 Aa Bb y1' nf'
 obtain⟨i0,i1,i2,i3,nf⟩:=hs7.node_cells xI.out.hi
 obtain⟨x0,x1,x2,x3,_⟩:=hs7.node_cells xI.out.ha
 obtain⟨y0,y1,y2,y3,_⟩:=hs7.node_cells xI.out.hb
 dsimp only at i0 i1 i2 i3 x0 x1 x2 x3 y0 y1 y2 y3
 have BF:=B5 hs7
 clear hs7
 have HG:=B5 (jR (i:=b) (T:=T.tri i a b { mi with keys:=aP mi.keys C,kids:=aP mi.kids (C+1) } { mx with keys:=kx++my.keys,vals:=mx.vals++my.vals,kids:=mx.kids++my.kids } my) (by unfold TM.tri;simp only [List.length_set];rw [wh.out];exact lt3) (by unfold TM.tri;simp only [List.length_set];exact yX.out) Ay.out ⟨_,_,_,xI.out.done uk.out,BF.out⟩)
 go_wp2_with ((go_at_call 106;refine HG.out.mono ?_;rintro e20 w20 ⟨rfl,ha20⟩;have yr:=B5 ha20;clear ha20))
 go_end0
 rw [BE.out]
 exact⟨rfl,yr.out⟩
def mM (B:World)(D:PH)(t:Nat)(T T':TM)(f:FuncId)(i:Nat)(c:Int):Prop:=∀(w:World) (l:List HP),TreeA B D w t T l→Calls Tryz.prog f #[.pointer (some ⟨t,0,none⟩),.int .i64 i,.int .i64 c] w fun e w'=>e = .returned (.tuple #[])∧TreeA B D w' t T' l
theorem qD {B w:World}{D:PH}{t:Nat}{T T':TM}{l:List HP}{i C a:Nat}{mi ma:NodeM}(hi:T.nodes[i]?=some mi)(hmb0:mi.kids.length≤1000)(ha:mi.kids[C]?=some a)(hma:T.nodes[a]?=some ma)(hza:2<ma.size)
  (hop:mM B D t T T' 132 i ((C+1:Nat):Int)) (h:TreeA B D w t T l) :
  Calls Tryz.prog 121 #[.pointer (some ⟨t,0,none⟩),.int .i64 i,.int .i64 ((C+1:Nat):Int)] w fun e w'=>e = .returned (.tuple #[])∧TreeA B D w' t T' l:=by
 have hA:=h
 obtain⟨nv,fv,ns,hns,hs⟩:=h
 obtain⟨⟨ikv,ivv,idv⟩,hpi⟩:=aI hns hi
 have hlt:=(List.getElem?_eq_some_iff.1 hpi).1
 obtain⟨g,cn,rfl,_,hcm⟩:=hs.nv_some (by omega)
 unfold maxLen at hcm
 have hib:(i:Int)<(ns.length:Int):=by omega
 have hkl:0<mi.kids.length:=by have:=(List.getElem?_eq_some_iff.1 ha).1;omega
 obtain⟨idg,idc,hidv,_,_⟩:=aD (Sat.own (hs.focus hpi) 2 rfl) hkl
 dsimp only at hidv
 subst hidv
 obtain⟨t0,t1,t2,t3,t4,tf⟩:=hs.tcells
 obtain⟨i0,i1,i2,i3,nf⟩:=hs.node_cells hpi
 dsimp only at i0 i1 i2 i3
 have hal:=(List.getElem?_eq_some_iff.1 ha).1
 have hac:=bu (hs.kids_rd hpi) ha
 have tY:=B5 (dz hma hA)
 have hCi:(C:Int)<(mi.kids.length:Int):=by omega
 have hza':(ma.size:Int) > 2:=by omega
 try dsimp only at hac
 have hw1:IntKind.i64.wrap ((C:Int)+1-1)=(C:Int):=by rw [bU _ (by omega) (by omega)];omega
 have hw0:IntKind.i64.wrap (C:Int)=(C:Int):=bU _ (by omega) (by omega)
 have hw2:IntKind.i64.wrap ((C:Int)+1+1)=(C:Int)+1+1:=bU _ (by omega) (by omega)
 have hc0:(C:Int)+1 > 0:=by omega
 have hc00:0<(C:Int)+1:=by omega
 have hc02:0≤(C:Int)+1+1:=by omega
 have vA:=B5 (hop w l hA)
 clear hA hs hns hpi hi hop ha hma hza
 push_cast
 go_enter Tryz.func121,Tryz.ntmps121
 go_wp2_with (first|(go_at_call 109;refine tY.out.mono ?_;rintro e3 w3 ⟨rfl,rfl⟩;clear tY)|(go_at_call 132;refine vA.out.mono ?_;rintro e5 w5 ⟨rfl,ha5⟩;have v6:=B5 ha5;clear ha5))
 go_end0
 exact⟨rfl,v6.out⟩
theorem oA {B w:World}{D:PH}{t:Nat}{T T':TM}{l:List HP}{i b:Nat}{mi mb:NodeM}(hi:T.nodes[i]?=some mi)(hmb0:mi.kids.length≤1000)(hb:mi.kids[1]?=some b)(hmb:T.nodes[b]?=some mb)(hzb:2<mb.size)
  (hop:mM B D t T T' 133 i 0) (h:TreeA B D w t T l) :
  Calls Tryz.prog 121 #[.pointer (some ⟨t,0,none⟩),.int .i64 i,.int .i64 0] w fun e w'=>e = .returned (.tuple #[])∧TreeA B D w' t T' l:=by
 have hA:=h
 obtain⟨nv,fv,ns,hns,hs⟩:=h
 obtain⟨⟨ikv,ivv,idv⟩,hpi⟩:=aI hns hi
 have hlt:=(List.getElem?_eq_some_iff.1 hpi).1
 obtain⟨g,cn,rfl,_,hcm⟩:=hs.nv_some (by omega)
 unfold maxLen at hcm
 have hib:(i:Int)<(ns.length:Int):=by omega
 have hkl:0<mi.kids.length:=by have:=(List.getElem?_eq_some_iff.1 hb).1;omega
 obtain⟨idg,idc,hidv,_,_⟩:=aD (Sat.own (hs.focus hpi) 2 rfl) hkl
 dsimp only at hidv
 subst hidv
 obtain⟨t0,t1,t2,t3,t4,tf⟩:=hs.tcells
 obtain⟨i0,i1,i2,i3,nf⟩:=hs.node_cells hpi
 dsimp only at i0 i1 i2 i3
 have hbl:=(List.getElem?_eq_some_iff.1 hb).1
 have hbc:=bu (hs.kids_rd hpi) hb
 have uw:=B5 (dz hmb hA)
 have hCb:(1:Int)<(mi.kids.length:Int):=by omega
 have hzb':(mb.size:Int) > 2:=by omega
 try dsimp only at hbc
 have vA:=B5 (hop w l hA)
 clear hA hs hns hpi hi hop hb hmb hzb
 skip
 go_enter Tryz.func121,Tryz.ntmps121
 go_wp2_with (first|(go_at_call 109;refine uw.out.mono ?_;rintro e4 w4 ⟨rfl,rfl⟩;clear uw)|(go_at_call 133;refine vA.out.mono ?_;rintro e5 w5 ⟨rfl,ha5⟩;have v6:=B5 ha5;clear ha5))
 go_end0
 exact⟨rfl,v6.out⟩
theorem nY {B w:World}{D:PH}{t:Nat}{T T':TM}{l:List HP}{i C a b:Nat}{mi ma mb:NodeM}(hi:T.nodes[i]?=some mi)(hmb0:mi.kids.length≤1000)(ha:mi.kids[C]?=some a)(hma:T.nodes[a]?=some ma)(hza:ma.size≤2)(hb:mi.kids[C+2]?=some b)(hmb:T.nodes[b]?=some mb)(hzb:2<mb.size)
  (hop:mM B D t T T' 133 i ((C+1:Nat):Int)) (h:TreeA B D w t T l) :
  Calls Tryz.prog 121 #[.pointer (some ⟨t,0,none⟩),.int .i64 i,.int .i64 ((C+1:Nat):Int)] w fun e w'=>e = .returned (.tuple #[])∧TreeA B D w' t T' l:=by
 have hA:=h
 obtain⟨nv,fv,ns,hns,hs⟩:=h
 obtain⟨⟨ikv,ivv,idv⟩,hpi⟩:=aI hns hi
 have hlt:=(List.getElem?_eq_some_iff.1 hpi).1
 obtain⟨g,cn,rfl,_,hcm⟩:=hs.nv_some (by omega)
 unfold maxLen at hcm
 have hib:(i:Int)<(ns.length:Int):=by omega
 have hkl:0<mi.kids.length:=by have:=(List.getElem?_eq_some_iff.1 ha).1;omega
 obtain⟨idg,idc,hidv,_,_⟩:=aD (Sat.own (hs.focus hpi) 2 rfl) hkl
 dsimp only at hidv
 subst hidv
 obtain⟨t0,t1,t2,t3,t4,tf⟩:=hs.tcells
 obtain⟨i0,i1,i2,i3,nf⟩:=hs.node_cells hpi
 dsimp only at i0 i1 i2 i3
 have hal:=(List.getElem?_eq_some_iff.1 ha).1
 have hac:=bu (hs.kids_rd hpi) ha
 have tY:=B5 (dz hma hA)
 have hCi:(C:Int)<(mi.kids.length:Int):=by omega
 have hza':¬((ma.size:Int) > 2):=by omega
 try dsimp only at hac
 have hw1:IntKind.i64.wrap ((C:Int)+1-1)=(C:Int):=by rw [bU _ (by omega) (by omega)];omega
 have hw0:IntKind.i64.wrap (C:Int)=(C:Int):=bU _ (by omega) (by omega)
 have hw2:IntKind.i64.wrap ((C:Int)+1+1)=(C:Int)+1+1:=bU _ (by omega) (by omega)
 have hc0:(C:Int)+1 > 0:=by omega
 have hc00:0<(C:Int)+1:=by omega
 have hc02:0≤(C:Int)+1+1:=by omega
 have hbl:=(List.getElem?_eq_some_iff.1 hb).1
 have hbc:=bu (hs.kids_rd hpi) hb
 have uw:=B5 (dz hmb hA)
 have hCb:(C:Int)+1+1<(mi.kids.length:Int):=by omega
 have hzb':(mb.size:Int) > 2:=by omega
 try dsimp only at hbc
 have vA:=B5 (hop w l hA)
 clear hA hs hns hpi hi hop ha hma hza hb hmb hzb
 push_cast
 go_enter Tryz.func121,Tryz.ntmps121
 go_wp2_with (first|(go_at_call 109;refine tY.out.mono ?_;rintro e3 w3 ⟨rfl,rfl⟩;clear tY)|(go_at_call 109;refine uw.out.mono ?_;rintro e4 w4 ⟨rfl,rfl⟩;clear uw)|(go_at_call 133;refine vA.out.mono ?_;rintro e5 w5 ⟨rfl,ha5⟩;have v6:=B5 ha5;clear ha5))
 go_end0
 exact⟨rfl,v6.out⟩
theorem km {B w:World}{D:PH}{t:Nat}{T T':TM}{l:List HP}{i C a:Nat}{mi ma:NodeM}(hi:T.nodes[i]?=some mi)(hmb0:mi.kids.length≤1000)(ha:mi.kids[C]?=some a)(hma:T.nodes[a]?=some ma)(hza:ma.size≤2)(hlen:mi.kids.length=C+2)
  (hop:mM B D t T T' 134 i (C:Int)) (h:TreeA B D w t T l) :
  Calls Tryz.prog 121 #[.pointer (some ⟨t,0,none⟩),.int .i64 i,.int .i64 ((C+1:Nat):Int)] w fun e w'=>e = .returned (.tuple #[])∧TreeA B D w' t T' l:=by
 have hA:=h
 obtain⟨nv,fv,ns,hns,hs⟩:=h
 obtain⟨⟨ikv,ivv,idv⟩,hpi⟩:=aI hns hi
 have hlt:=(List.getElem?_eq_some_iff.1 hpi).1
 obtain⟨g,cn,rfl,_,hcm⟩:=hs.nv_some (by omega)
 unfold maxLen at hcm
 have hib:(i:Int)<(ns.length:Int):=by omega
 have hkl:0<mi.kids.length:=by have:=(List.getElem?_eq_some_iff.1 ha).1;omega
 obtain⟨idg,idc,hidv,_,_⟩:=aD (Sat.own (hs.focus hpi) 2 rfl) hkl
 dsimp only at hidv
 subst hidv
 obtain⟨t0,t1,t2,t3,t4,tf⟩:=hs.tcells
 obtain⟨i0,i1,i2,i3,nf⟩:=hs.node_cells hpi
 dsimp only at i0 i1 i2 i3
 have hal:=(List.getElem?_eq_some_iff.1 ha).1
 have hac:=bu (hs.kids_rd hpi) ha
 have tY:=B5 (dz hma hA)
 have hCi:(C:Int)<(mi.kids.length:Int):=by omega
 have hza':¬((ma.size:Int) > 2):=by omega
 try dsimp only at hac
 have hw1:IntKind.i64.wrap ((C:Int)+1-1)=(C:Int):=by rw [bU _ (by omega) (by omega)];omega
 have hw0:IntKind.i64.wrap (C:Int)=(C:Int):=bU _ (by omega) (by omega)
 have hw2:IntKind.i64.wrap ((C:Int)+1+1)=(C:Int)+1+1:=bU _ (by omega) (by omega)
 have hc0:(C:Int)+1 > 0:=by omega
 have hc00:0<(C:Int)+1:=by omega
 have hc02:0≤(C:Int)+1+1:=by omega
 have hCb:¬((C:Int)+1+1<(mi.kids.length:Int)):=by omega
 have vA:=B5 (hop w l hA)
 clear hA hs hns hpi hi hop ha hma hza
 push_cast
 go_enter Tryz.func121,Tryz.ntmps121
 go_wp2_with (first|(go_at_call 109;refine tY.out.mono ?_;rintro e3 w3 ⟨rfl,rfl⟩;clear tY)|(go_at_call 134;refine vA.out.mono ?_;rintro e5 w5 ⟨rfl,ha5⟩;have v6:=B5 ha5;clear ha5))
 go_end0
 exact⟨rfl,v6.out⟩
theorem pA {B w:World}{D:PH}{t:Nat}{T T':TM}{l:List HP}{i C a b:Nat}{mi ma mb:NodeM}(hi:T.nodes[i]?=some mi)(hmb0:mi.kids.length≤1000)(ha:mi.kids[C]?=some a)(hma:T.nodes[a]?=some ma)(hza:ma.size≤2)(hb:mi.kids[C+2]?=some b)(hmb:T.nodes[b]?=some mb)(hzb:mb.size≤2)
  (hop:mM B D t T T' 134 i (C:Int)) (h:TreeA B D w t T l) :
  Calls Tryz.prog 121 #[.pointer (some ⟨t,0,none⟩),.int .i64 i,.int .i64 ((C+1:Nat):Int)] w fun e w'=>e = .returned (.tuple #[])∧TreeA B D w' t T' l:=by
 have hA:=h
 obtain⟨nv,fv,ns,hns,hs⟩:=h
 obtain⟨⟨ikv,ivv,idv⟩,hpi⟩:=aI hns hi
 have hlt:=(List.getElem?_eq_some_iff.1 hpi).1
 obtain⟨g,cn,rfl,_,hcm⟩:=hs.nv_some (by omega)
 unfold maxLen at hcm
 have hib:(i:Int)<(ns.length:Int):=by omega
 have hkl:0<mi.kids.length:=by have:=(List.getElem?_eq_some_iff.1 ha).1;omega
 obtain⟨idg,idc,hidv,_,_⟩:=aD (Sat.own (hs.focus hpi) 2 rfl) hkl
 dsimp only at hidv
 subst hidv
 obtain⟨t0,t1,t2,t3,t4,tf⟩:=hs.tcells
 obtain⟨i0,i1,i2,i3,nf⟩:=hs.node_cells hpi
 dsimp only at i0 i1 i2 i3
 have hal:=(List.getElem?_eq_some_iff.1 ha).1
 have hac:=bu (hs.kids_rd hpi) ha
 have tY:=B5 (dz hma hA)
 have hCi:(C:Int)<(mi.kids.length:Int):=by omega
 have hza':¬((ma.size:Int) > 2):=by omega
 try dsimp only at hac
 have hw1:IntKind.i64.wrap ((C:Int)+1-1)=(C:Int):=by rw [bU _ (by omega) (by omega)];omega
 have hw0:IntKind.i64.wrap (C:Int)=(C:Int):=bU _ (by omega) (by omega)
 have hw2:IntKind.i64.wrap ((C:Int)+1+1)=(C:Int)+1+1:=bU _ (by omega) (by omega)
 have hc0:(C:Int)+1 > 0:=by omega
 have hc00:0<(C:Int)+1:=by omega
 have hc02:0≤(C:Int)+1+1:=by omega
 have hbl:=(List.getElem?_eq_some_iff.1 hb).1
 have hbc:=bu (hs.kids_rd hpi) hb
 have uw:=B5 (dz hmb hA)
 have hCb:(C:Int)+1+1<(mi.kids.length:Int):=by omega
 have hzb':¬((mb.size:Int) > 2):=by omega
 try dsimp only at hbc
 have vA:=B5 (hop w l hA)
 clear hA hs hns hpi hi hop ha hma hza hb hmb hzb
 push_cast
 go_enter Tryz.func121,Tryz.ntmps121
 go_wp2_with (first|(go_at_call 109;refine tY.out.mono ?_;rintro e3 w3 ⟨rfl,rfl⟩;clear tY)|(go_at_call 109;refine uw.out.mono ?_;rintro e4 w4 ⟨rfl,rfl⟩;clear uw)|(go_at_call 134;refine vA.out.mono ?_;rintro e5 w5 ⟨rfl,ha5⟩;have v6:=B5 ha5;clear ha5))
 go_end0
 exact⟨rfl,v6.out⟩
theorem oW {B w:World}{D:PH}{t:Nat}{T T':TM}{l:List HP}{i b:Nat}{mi mb:NodeM}(hi:T.nodes[i]?=some mi)(hmb0:mi.kids.length≤1000)(hb:mi.kids[1]?=some b)(hmb:T.nodes[b]?=some mb)(hzb:mb.size≤2)
  (hop:mM B D t T T' 134 i 0) (h:TreeA B D w t T l) :
  Calls Tryz.prog 121 #[.pointer (some ⟨t,0,none⟩),.int .i64 i,.int .i64 0] w fun e w'=>e = .returned (.tuple #[])∧TreeA B D w' t T' l:=by
 have hA:=h
 obtain⟨nv,fv,ns,hns,hs⟩:=h
 obtain⟨⟨ikv,ivv,idv⟩,hpi⟩:=aI hns hi
 have hlt:=(List.getElem?_eq_some_iff.1 hpi).1
 obtain⟨g,cn,rfl,_,hcm⟩:=hs.nv_some (by omega)
 unfold maxLen at hcm
 have hib:(i:Int)<(ns.length:Int):=by omega
 have hkl:0<mi.kids.length:=by have:=(List.getElem?_eq_some_iff.1 hb).1;omega
 obtain⟨idg,idc,hidv,_,_⟩:=aD (Sat.own (hs.focus hpi) 2 rfl) hkl
 dsimp only at hidv
 subst hidv
 obtain⟨t0,t1,t2,t3,t4,tf⟩:=hs.tcells
 obtain⟨i0,i1,i2,i3,nf⟩:=hs.node_cells hpi
 dsimp only at i0 i1 i2 i3
 have hbl:=(List.getElem?_eq_some_iff.1 hb).1
 have hbc:=bu (hs.kids_rd hpi) hb
 have uw:=B5 (dz hmb hA)
 have hCb:(1:Int)<(mi.kids.length:Int):=by omega
 have hzb':¬((mb.size:Int) > 2):=by omega
 try dsimp only at hbc
 have vA:=B5 (hop w l hA)
 clear hA hs hns hpi hi hop hb hmb hzb
 skip
 go_enter Tryz.func121,Tryz.ntmps121
 go_wp2_with (first|(go_at_call 109;refine uw.out.mono ?_;rintro e4 w4 ⟨rfl,rfl⟩;clear uw)|(go_at_call 134;refine vA.out.mono ?_;rintro e5 w5 ⟨rfl,ha5⟩;have v6:=B5 ha5;clear ha5))
 go_end0
 exact⟨rfl,v6.out⟩
def oT (T T':TM)(i c:Nat):Prop:=∀ {B:World} {D:PH} {t:Nat} (w:World) (l:List HP),TreeA B D w t T l→Calls Tryz.prog 121 #[.pointer (some ⟨t,0,none⟩),.int .i64 i,.int .i64 c] w fun e w'=>e = .returned (.tuple #[])∧TreeA B D w' t T' l
inductive TM.RemR (k:Val):TM→Nat→TM→Bool→Prop
 | absent {T:TM} {i:Nat} {m:NodeM} (hi:T.nodes[i]?=some m) (hl:m.leaf=true) (hkb:m.keys.length≤1000) (his:dF m.keys k=false):TM.RemR k T i T false
 | found {T:TM} {i:Nat} {m:NodeM} (hi:T.nodes[i]?=some m) (hl:m.leaf=true) (hkb:m.keys.length≤1000) (hv:m.vals.length=m.keys.length) (his:dF m.keys k=true):TM.RemR k T i { T with nodes:=T.nodes.set i { m with keys:=aP m.keys (bg m.keys k),vals:=aP m.vals (bg m.keys k) } } true
 | inner {T T1:TM} {i kid:Nat} {m mk:NodeM} {b:Bool} (hi:T.nodes[i]?=some m) (hl:m.leaf=false) (hkb:m.keys.length≤1000) (hc:m.kids[bj m.keys k]?=some kid) (hp:TM.RemR k T kid T1 b) (hk:T1.nodes[kid]?=some mk) (hz:2≤mk.size):TM.RemR k T i T1 b
 | mended {T T1 T2:TM} {i kid:Nat} {m mk:NodeM} {b:Bool} (hi:T.nodes[i]?=some m) (hl:m.leaf=false) (hkb:m.keys.length≤1000) (hc:m.kids[bj m.keys k]?=some kid) (hp:TM.RemR k T kid T1 b) (hk:T1.nodes[kid]?=some mk) (hz:mk.size<2) (hm:oT T1 T2 i (bj m.keys k)):TM.RemR k T i T2 b
theorem iB {B w:World}{D:PH}{t:Nat}{T T1 T2:TM}{l:List HP}{i kid:Nat}{m mk:NodeM}{k:Val}{b:Bool}(hi:T.nodes[i]?=some m)(hl:m.leaf=false)(hkb:m.keys.length≤1000)(hc:m.kids[bj m.keys k]?=some kid)
  (ih:∀(w:World) (l:List HP),TreeA B D w t T l→Calls Tryz.prog 105 #[.pointer (some ⟨t,0,none⟩),.int .i64 kid,k.v] w fun e w'=>e = .returned (.bool b)∧TreeA B D w' t T1 l)
  (hk:T1.nodes[kid]?=some mk) (hz:(2≤mk.size∧T2=T1)∨(mk.size<2∧oT T1 T2 i (bj m.keys k))) (h:TreeA B D w t T l) :
  Calls Tryz.prog 105 #[.pointer (some ⟨t,0,none⟩),.int .i64 i,k.v] w fun e w'=>e = .returned (.bool b)∧TreeA B D w' t T2 l:=by
 obtain⟨nv,fv,ns,hns,hs⟩:=h
 obtain⟨⟨kv,vv,dv⟩,hp⟩:=aI hns hi
 have hlt:=(List.getElem?_eq_some_iff.1 hp).1
 obtain⟨g,c,rfl,_,hcm⟩:=hs.nv_some (by omega)
 unfold maxLen at hcm
 have hs1:=hs.alloc #[.bool k.t,.int .i64 k.n,.string k.s] tV
 have hib:(i:Int)<(ns.length:Int):=by omega
 have tD:=B5 hs1
 have HP:=B5 hp
 have uk:=B5 hns
 have HL:=B5 hl
 have hcl:=(List.getElem?_eq_some_iff.1 hc).1
 have HC:=B5 hc
 have HI:=B5 hi
 have IH:=B5 ih
 have HK:=B5 hk
 have hkb2:m.keys.length≤1000000:=by omega
 clear hs hs1 hp hi hns hl hc ih hk
 dsimp only [Val.v]
 go_enter Tryz.func105,Tryz.ntmps105
 go_upto_region 1 with (fail)
 obtain⟨W,hW,hs2⟩:=tD.out.hide
 rw [←hW]
 clear tD hW
 generalize w.heap.size=bk at hs2 ⊢
 obtain⟨t0,t1,t2,t3,t4,tf⟩:=hs2.tcells
 obtain⟨n0,n1,n2,n3,nf⟩:=hs2.node_cells HP.out
 obtain⟨x0,x1,x2,xf⟩:=aT (Sat.blk hs2 4 rfl)
 dsimp only at n0 n1 n2 n3
 rw [HL.out]at n0
 obtain⟨C,hC⟩:∃C,bj m.keys k=C:=⟨_,rfl⟩
 have HB:=B5 (iW (i:=i) k HI.out hkb2 ⟨_,_,_,uk.out,hs2⟩)
 rw [hC]at HB HC hcl hz
 have tL:=B5 hs2
 have HZ:=B5 hz
 clear hs2 hC hz
 go_upto_region 9 with ((go_at_call 102;refine HB.out.mono ?_;rintro e1 w1 ⟨rfl,hk1⟩;have hs3:=tL.out.kept hk1;have tH:=B5 hs3;clear hk1 tL x0 x1 x2 xf t0 t1 t2 t3 t4 tf n0 n1 n2 n3 nf HB;clear hs3))
 have hs3:=tH.out
 obtain⟨t0,t1,t2,t3,t4,tf⟩:=hs3.tcells
 obtain⟨n0,n1,n2,n3,nf⟩:=hs3.node_cells HP.out
 obtain⟨x0,x1,x2,xf⟩:=aT (Sat.blk hs3 4 rfl)
 obtain⟨dg,dc,hdv,hdc1,hdc2⟩:=aD (Sat.own (hs3.focus HP.out) 2 rfl) (by show 0<m.kids.length;omega)
 dsimp only at n0 n1 n2 n3 hdv
 subst hdv
 have hcell:=bu (hs3.kids_rd HP.out) HC.out
 have hcb:(C:Int)<(m.kids.length:Int):=by omega
 have zm:=B5 (IH.out w1 _ ⟨_,_,_,uk.out,hs3⟩)
 clear hs3 tH
 go_upto_region 11 with ((go_at_call 105;refine zm.out.mono ?_;rintro e2 w2 ⟨rfl,hs4⟩;have ym:=B5 hs4;clear hs4 zm x0 x1 x2 xf t0 t1 t2 t3 t4 tf n0 n1 n2 n3 nf hcell))
 have uK:=B5 (dz HK.out ym.out)
 rcases HZ.out with ⟨hz,rfl⟩|⟨hz,hsp⟩
 ·have hz':¬((mk.size:Int)<2):=by omega
  go_wp2_with ((go_at_call 109;refine uK.out.mono ?_;rintro e3 w3 ⟨rfl,rfl⟩))
  go_ret
  obtain⟨nv4,fv4,ns4,hns4,hs4⟩:=ym.out
  exact⟨rfl,_,_,_,hns4,hs4.drop⟩
 ·have hz':((mk.size:Int)<2):=by omega
  have As:=B5 (hsp _ _ ym.out)
  clear hsp
  go_wp2_with (first|(go_at_call 109;refine uK.out.mono ?_;rintro e3 w3 ⟨rfl,rfl⟩)|(go_at_call 121;refine As.out.mono ?_;rintro e5 w5 ⟨rfl,hs5⟩;have v6:=B5 hs5;clear hs5))
  go_ret
  obtain⟨nv5,fv5,ns5,hns5,hs5⟩:=v6.out
  exact⟨rfl,_,_,_,hns5,hs5.drop⟩
theorem gR {B:World}{D:PH}{t:Nat}{T T':TM}{i:Nat}{k:Val}{b:Bool}(hp:TM.RemR k T i T' b):∀(w:World) (l:List HP),TreeA B D w t T l →
  Calls Tryz.prog 105 #[.pointer (some ⟨t,0,none⟩),.int .i64 i,k.v] w fun e w'=>e = .returned (.bool b)∧TreeA B D w' t T' l:=by
 induction hp with
 | absent hi hl hkb his=>intro w l h;exact lC hi hl hkb his h
 | found hi hl hkb hv his=>intro w l h;exact nh hi hl hkb hv his h
 | inner hi hl hkb hc hp hk hz ih=>intro w l h;exact iB hi hl hkb hc ih hk (.inl ⟨hz,rfl⟩) h
 | mended hi hl hkb hc hp hk hz hm ih=>intro w l h;exact iB hi hl hkb hc ih hk (.inr ⟨hz,hm⟩) h
end Go.Proofs.YtdobimafhbfkhaaGreat
