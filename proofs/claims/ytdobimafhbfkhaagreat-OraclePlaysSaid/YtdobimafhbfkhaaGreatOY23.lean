/- The tree: contract of join, at leaves, and what follows. -/
import Derived.Test.YtdobimafhbfkhaaGreatOY21
import Derived.Test.YtdobimafhbfkhaaGreatOY22
set_option maxHeartbeats 64000000
namespace Go.Proofs.YtdobimafhbfkhaaGreat
open Go.ChangeShapes Go.WideShapes Go.ChangeAt Go.RowKit
set_option maxRecDepth 100000
set_option linter.unusedSimpArgs false
theorem um {B w:World}{D:PH}{t:Nat}{T:TM}{l:List HP}{i C a b q:Nat}{mi mx my:NodeM}{sk:Val}(hi:T.nodes[i]?=some mi)(hx:T.nodes[a]?=some mx)(hy:T.nodes[b]?=some my)(hia:i≠a)(hib:i≠b)(hab:a≠b)(hca:mi.kids[C]?=some a)(hcb:mi.kids[C+1]?=some b)(hkC:C<mi.keys.length)(hmb:mi.kids.length≤1000)(hlx:mx.leaf=true)(hik:mi.keys.length=q+1)(hid:mi.kids.length=q+2)
  (hxb:mx.keys.length≤1000) (hxv:mx.vals.length≤1000) (hxd:mx.kids.length≤1000) (hyb:my.keys.length≤1000) (hyv:my.vals.length≤1000) (hyd:my.kids.length≤1000) (hsk:mi.keys[C]?=some sk) (hnb:T.nodes.length≤1000000) (hfb:T.free.length≤1000000) (h:TreeA B D w t T l) :
  Calls Tryz.prog 134 #[.pointer (some ⟨t,0,none⟩),.int .i64 i,.int .i64 (C:Int)] w fun e w'=>e = .returned (.tuple #[]) ∧
   TreeA B D w' t ((T.tri i a b { mi with keys:=aR mi.keys C,kids:=aR mi.kids (C+1) } { mx with keys:=mx.keys++my.keys,vals:=mx.vals++my.vals,kids:=mx.kids++my.kids } my).give b) l:=by
 obtain⟨nv,fv,ns,hns,hs⟩:=h;obtain⟨⟨ikv,ivv,idv⟩,hpi⟩:=aK hns hi;obtain⟨⟨xkv,xvv,xdv⟩,hpx⟩:=aK hns hx;obtain⟨⟨ykv,yvv,ydv⟩,hpy⟩:=aK hns hy;have hTr:Tri ns ns i a b _ _ _:=⟨hpi,hpx,hpy,fun _ _ _ _=>rfl,rfl,hia,hib,hab⟩;obtain⟨lt1,lt2,lt3⟩:=hTr.lt;obtain⟨g,cn,rfl,_,hcm⟩:=hs.nv_some (by omega);unfold maxLen at hcm;have hclt:=(FO.1 hcb).1;obtain⟨ikg,ikc,hikv,hikc,_⟩:=aF (Sat.own (hs.focus hpi) 0 rfl) (by show 0<mi.keys.length;omega);obtain⟨idg,idc,hidv,_,_⟩:=aF (Sat.own (hs.focus hpi) 2 rfl) (by show 0<mi.kids.length;omega);obtain⟨xko,xkc,hxkv⟩:=(hs.focus hpx).own_shape;obtain⟨xvo,xvc,hxvv⟩:=(hs.focus hpx).drop.own_shape;obtain⟨xdo,xdc,hxdv⟩:=(hs.focus hpx).drop.drop.own_shape;obtain⟨yko,ykc,hykv⟩:=(hs.focus hpy).own_shape;obtain⟨yvo,yvc,hyvv⟩:=(hs.focus hpy).drop.own_shape;obtain⟨ydo,ydc,hydv⟩:=(hs.focus hpy).drop.drop.own_shape;dsimp only at hikv hidv hykv hyvv hydv hxkv hxvv hxdv hikc;have hnl:T.nodes.length=ns.length:=by rw [←hns,FZ]
 subst hikv hidv hykv hyvv hydv hxkv hxvv hxdv;generalize hN:ns.length=N at *;have hib1:(i:Int)<(N:Int):=by omega
 have hab1:(a:Int)<(N:Int):=by omega
 have hbb1:(b:Int)<(N:Int):=by omega
 have hC1:(C:Int)<(mi.kids.length:Int):=by omega
 have hC2:(C:Int)+1<(mi.kids.length:Int):=by omega
 have hC3:(C:Int)<(mi.keys.length:Int):=by omega
 have hwC:IntKind.i64.wrap ((C:Int)+1-1)=(C:Int):=by rw [cq _ (by omega) (by omega)];omega
 have hwC0:IntKind.i64.wrap (C:Int)=(C:Int):=cq _ (by omega) (by omega);have hwq0:IntKind.i64.wrap (q:Int)=(q:Int):=cq _ (by omega) (by omega);have hwC1:IntKind.i64.wrap ((C:Int)+1)=(C:Int)+1:=cq _ (by omega) (by omega);have hwC2:IntKind.i64.wrap ((C:Int)+2)=(C:Int)+1+1:=by rw [cq _ (by omega) (by omega)];omega
 have hwq:IntKind.i64.wrap ((q:Int)+1-1)=(q:Int):=by rw [cq _ (by omega) (by omega)];omega
 have hwq1:IntKind.i64.wrap ((q:Int)+1)=(q:Int)+1:=cq _ (by omega) (by omega);have hqi:(q:Int)<(q:Int)+1:=by omega
 have hq01:0≤(q:Int)+1:=by omega
 have hC01:0≤(C:Int)+1:=by omega
 obtain⟨t0,t1,t2,t3,t4,tf⟩:=hs.tcells;obtain⟨i0,i1,i2,i3,nf⟩:=hs.node_cells hTr.hi;obtain⟨x0,x1,x2,x3,_⟩:=hs.node_cells hTr.ha;obtain⟨y0,y1,y2,y3,_⟩:=hs.node_cells hTr.hb;have hca1:=bD (hs.kids_rd hpi) hca;have hcb1:=bD (hs.kids_rd hpi) hcb;dsimp only at i0 i1 i2 i3 x0 x1 x2 x3 y0 y1 y2 y3 hca1 hcb1;have HS:=FH hs;have HT:=FH hTr;have xr:=FH hns;have zg:=FH hlx;have CQ:=FH hik;have DO:=FH hid;have zY:=FH hsk;have Cz:=FH hnb;have DP:=FH hfb;have zZ:=FH hnl;clear hlx hik hid hsk hnb hfb hnl;clear hs hTr hns hi hx hy hia hib hab hca hcb hpi hpx hpy hN
 push_cast
 go_enter Tryz.func134,Tryz.ntmps134;go_upto_region 2 with (fail)
 go_quiet (fail)
 have hs1:=HS.out.kept ((Kept.refl (fun _=>False) w).drewN nq);obtain⟨W1,hW1⟩:∃W1,W1=w.drewN nq:=⟨_,rfl⟩;rw [←hW1]at hs1 ⊢;clear hW1 HS t0 t1 t2 t3 t4 tf i0 i1 i2 i3 nf x0 x1 x2 x3 y0 y1 y2 y3 hca1 hcb1;obtain⟨i0,i1,i2,i3,nf⟩:=hs1.node_cells HT.out.hi;obtain⟨x0,x1,x2,x3,_⟩:=hs1.node_cells HT.out.ha;obtain⟨y0,y1,y2,y3,_⟩:=hs1.node_cells HT.out.hb;dsimp only at i0 i1 i2 i3 x0 x1 x2 x3 y0 y1 y2 y3;have wG:=FH hs1;clear hs1;rw [zg.out]at x0;have had:=wG.out.drew;have hrd:=had.keys_rd HT.out.hb;go_upto_region 5 with (fail)
 refine aH [rq 0 12,rq 1 9,rq 2 9,rq 3 9,rq 4 9,rq 5 9,rq 6 9,rq 7 9,rq 8 9,(9,true,0),rq 10 12,rq 11 12,(12,true,0)] ?_;iterate 9 (refine ae rfl rfl fun K hK=>?_;go_simp;apply hK;clear hK K)
 refine af rfl ?_;refine dy rfl _ _ rfl (new:=my.keys) had HT.out.ha rfl rfl hrd (by show mx.keys.length+my.keys.length≤10000;omega) ?_;intro o2 c2 w2 y1' nf' hs2;obtain⟨ns2,hT2,hs2⟩:∃ns2,Tri ns ns2 i a b (⟨.slice (some ⟨ikg,0,none⟩) mi.keys.length ikc,ivv,.slice (some ⟨idg,0,none⟩) mi.kids.length idc⟩,mi) (⟨.slice o2 (mx.keys.length+my.keys.length) c2,.slice xvo mx.vals.length xvc,.slice xdo mx.kids.length xdc⟩,{ mx with keys:=mx.keys++my.keys }) (⟨.slice yko my.keys.length ykc,.slice yvo my.vals.length yvc,.slice ydo my.kids.length ydc⟩,my)∧TreeS B D _ t (.slice (some ⟨g,0,none⟩) N cn) fv ns2 T.free T.k l:=⟨_,HT.out.set_a _,hs2⟩;have wJ:=FH hs2;have xn:=FH hT2;clear hs2 hT2 had hrd wG i0 i1 i2 i3 nf x0 x1 x2 x3 y0 y1 y2 y3;refine wpList_nil ?_;apply And.intro
 ·go_simp
 iterate 2 (refine ae rfl rfl fun K hK=>?_;go_simp;apply hK;clear hK K)
 refine af rfl ?_;refine wpList_plain rfl fun K hK=>?_;go_simp;refine hK _ _ ?_;clear hK K;refine wpList_nil ?_;apply And.intro
 ·go_simp
 refine ag ?_;go_upto_region 6 with (fail)
 obtain⟨V2,hV2,hs2⟩:=wJ.out.hide;rw [←hV2];clear hV2 wJ y1' nf';obtain⟨i0,i1,i2,i3,nf⟩:=hs2.node_cells xn.out.hi;obtain⟨x0,x1,x2,x3,_⟩:=hs2.node_cells xn.out.ha;obtain⟨y0,y1,y2,y3,_⟩:=hs2.node_cells xn.out.hb;dsimp only at i0 i1 i2 i3 x0 x1 x2 x3 y0 y1 y2 y3;have yz:=FH hs2;clear hs2;have had:=yz.out.drew;have hrd:=had.vals_rd xn.out.hb;go_upto_region 6 with (fail)
 refine aH [rq 0 12,rq 1 9,rq 2 9,rq 3 9,rq 4 9,rq 5 9,rq 6 9,rq 7 9,rq 8 9,(9,true,0),rq 10 12,rq 11 12,(12,true,0)] ?_;iterate 9 (refine ae rfl rfl fun K hK=>?_;go_simp;apply hK;clear hK K)
 refine af rfl ?_;refine eY rfl _ _ rfl (new:=my.vals) had xn.out.ha rfl rfl hrd (by show mx.vals.length+my.vals.length≤10000;omega) ?_;intro o3 c3 w3 y1' nf' hs3;obtain⟨ns3,hT3,hs3⟩:∃ns3,Tri ns ns3 i a b (⟨.slice (some ⟨ikg,0,none⟩) mi.keys.length ikc,ivv,.slice (some ⟨idg,0,none⟩) mi.kids.length idc⟩,mi) (⟨.slice o2 (mx.keys.length+my.keys.length) c2,.slice o3 (mx.vals.length+my.vals.length) c3,.slice xdo mx.kids.length xdc⟩,{ mx with keys:=mx.keys++my.keys,vals:=mx.vals++my.vals }) (⟨.slice yko my.keys.length ykc,.slice yvo my.vals.length yvc,.slice ydo my.kids.length ydc⟩,my)∧TreeS B D _ t (.slice (some ⟨g,0,none⟩) N cn) fv ns3 T.free T.k l:=⟨_,xn.out.set_a _,hs3⟩;have wI:=FH hs3;have xu:=FH hT3;clear hs3 hT3 had hrd yz i0 i1 i2 i3 nf x0 x1 x2 x3 y0 y1 y2 y3;refine wpList_nil ?_;apply And.intro
 ·go_simp
 iterate 2 (refine ae rfl rfl fun K hK=>?_;go_simp;apply hK;clear hK K)
 refine af rfl ?_;refine wpList_plain rfl fun K hK=>?_;go_simp;refine hK _ _ ?_;clear hK K;refine wpList_nil ?_;apply And.intro
 ·go_simp
 refine ag ?_;go_upto_region 7 with (fail)
 obtain⟨V3,hV3,hs3⟩:=wI.out.hide;rw [←hV3];clear hV3 wI y1' nf';obtain⟨i0,i1,i2,i3,nf⟩:=hs3.node_cells xu.out.hi;obtain⟨x0,x1,x2,x3,_⟩:=hs3.node_cells xu.out.ha;obtain⟨y0,y1,y2,y3,_⟩:=hs3.node_cells xu.out.hb;dsimp only at i0 i1 i2 i3 x0 x1 x2 x3 y0 y1 y2 y3;have yT:=FH hs3;clear hs3;have had:=yT.out.drew;have hrd:=had.kids_rd xu.out.hb;go_upto_region 7 with (fail)
 refine aH [rq 0 12,rq 1 9,rq 2 9,rq 3 9,rq 4 9,rq 5 9,rq 6 9,rq 7 9,rq 8 9,(9,true,0),rq 10 12,rq 11 12,(12,true,0)] ?_;iterate 9 (refine ae rfl rfl fun K hK=>?_;go_simp;apply hK;clear hK K)
 refine af rfl ?_;refine fe rfl _ _ rfl (new:=my.kids) had xu.out.ha rfl rfl hrd (by show mx.kids.length+my.kids.length≤10000;omega) ?_;intro o4 c4 w4 y1' nf' hs4;obtain⟨ns4,hT4,hs4⟩:∃ns4,Tri ns ns4 i a b (⟨.slice (some ⟨ikg,0,none⟩) mi.keys.length ikc,ivv,.slice (some ⟨idg,0,none⟩) mi.kids.length idc⟩,mi) (⟨.slice o2 (mx.keys.length+my.keys.length) c2,.slice o3 (mx.vals.length+my.vals.length) c3,.slice o4 (mx.kids.length+my.kids.length) c4⟩,{ mx with keys:=mx.keys++my.keys,vals:=mx.vals++my.vals,kids:=mx.kids++my.kids }) (⟨.slice yko my.keys.length ykc,.slice yvo my.vals.length yvc,.slice ydo my.kids.length ydc⟩,my)∧TreeS B D _ t (.slice (some ⟨g,0,none⟩) N cn) fv ns4 T.free T.k l:=⟨_,xu.out.set_a _,hs4⟩;have wO:=FH hs4;have xK:=FH hT4;clear hs4 hT4 had hrd yT i0 i1 i2 i3 nf x0 x1 x2 x3 y0 y1 y2 y3;refine wpList_nil ?_;apply And.intro
 ·go_simp
 iterate 2 (refine ae rfl rfl fun K hK=>?_;go_simp;apply hK;clear hK K)
 refine af rfl ?_;refine wpList_plain rfl fun K hK=>?_;go_simp;refine hK _ _ ?_;clear hK K;refine wpList_nil ?_;apply And.intro
 ·go_simp
 refine ag ?_;go_upto_region 8 with (fail)
 obtain⟨V4,hV4,hs4⟩:=wO.out.hide;rw [←hV4];clear hV4 wO y1' nf';obtain⟨i0,i1,i2,i3,nf⟩:=hs4.node_cells xK.out.hi;obtain⟨x0,x1,x2,x3,_⟩:=hs4.node_cells xK.out.ha;obtain⟨y0,y1,y2,y3,_⟩:=hs4.node_cells xK.out.hb;dsimp only at i0 i1 i2 i3 x0 x1 x2 x3 y0 y1 y2 y3;have za:=FH hs4;clear hs4;have hCq:C≤q:=by have:=CQ.out;omega
 go_upto_region 9 with ((go_at_call 119;refine(TreeS.del_keys (q:=C) (n:=q) za.out xK.out.hi CQ.out hCq).mono ?_;rintro e5 w5 ⟨o5,c5,rfl,y1',nf',hs5⟩;have Bz:=FH hs5;clear hs5 i0 i1 i2 i3 nf x0 x1 x2 x3 y0 y1 y2 y3))
 obtain⟨ns5,hT5,hs5⟩:∃ns5,Tri ns ns5 i a b (⟨.slice o5 q c5,ivv,.slice (some ⟨idg,0,none⟩) mi.kids.length idc⟩,{ mi with keys:=aR mi.keys C }) (⟨.slice o2 (mx.keys.length+my.keys.length) c2,.slice o3 (mx.vals.length+my.vals.length) c3,.slice o4 (mx.kids.length+my.kids.length) c4⟩,{ mx with keys:=mx.keys++my.keys,vals:=mx.vals++my.vals,kids:=mx.kids++my.kids }) (⟨.slice yko my.keys.length ykc,.slice yvo my.vals.length yvc,.slice ydo my.kids.length ydc⟩,my)∧TreeS B D _ t (.slice (some ⟨g,0,none⟩) N cn) fv ns5 T.free T.k l:=⟨_,xK.out.set_i _,Bz.out⟩;have xC:=FH hT5;clear hT5;obtain⟨V5,hV5,hs5⟩:=hs5.hide;rw [←hV5];clear hV5 za Bz y1' nf';obtain⟨i0,i1,i2,i3,nf⟩:=hs5.node_cells xC.out.hi;obtain⟨x0,x1,x2,x3,_⟩:=hs5.node_cells xC.out.ha;obtain⟨y0,y1,y2,y3,_⟩:=hs5.node_cells xC.out.hb;dsimp only at i0 i1 i2 i3 x0 x1 x2 x3 y0 y1 y2 y3;have zz:=FH hs5;clear hs5;go_upto_region 10 with ((go_at_call 144;refine(TreeS.del_kids (q:=C+1) (n:=(q+1)) zz.out xC.out.hi DO.out (by omega)).mono ?_;rintro e6 w6 ⟨o6,c6,rfl,y1',nf',hs6⟩;have B1:=FH hs6;clear hs6 i0 i1 i2 i3 nf x0 x1 x2 x3 y0 y1 y2 y3))
 obtain⟨ns6,hT6,hs6⟩:∃ns6,Tri ns ns6 i a b (⟨.slice o5 q c5,ivv,.slice o6 (q+1) c6⟩,{ mi with keys:=aR mi.keys C,kids:=aR mi.kids (C+1) }) (⟨.slice o2 (mx.keys.length+my.keys.length) c2,.slice o3 (mx.vals.length+my.vals.length) c3,.slice o4 (mx.kids.length+my.kids.length) c4⟩,{ mx with keys:=mx.keys++my.keys,vals:=mx.vals++my.vals,kids:=mx.kids++my.kids }) (⟨.slice yko my.keys.length ykc,.slice yvo my.vals.length yvc,.slice ydo my.kids.length ydc⟩,my)∧TreeS B D _ t (.slice (some ⟨g,0,none⟩) N cn) fv ns6 T.free T.k l:=⟨_,xC.out.set_i _,B1.out⟩;have zA:=FH hT6;clear hT6;obtain⟨V6,hV6,hs6⟩:=hs6.hide;rw [←hV6];clear hV6 zz B1 y1' nf';obtain⟨i0,i1,i2,i3,nf⟩:=hs6.node_cells zA.out.hi;obtain⟨x0,x1,x2,x3,_⟩:=hs6.node_cells zA.out.ha;obtain⟨y0,y1,y2,y3,_⟩:=hs6.node_cells zA.out.hb;dsimp only at i0 i1 i2 i3 x0 x1 x2 x3 y0 y1 y2 y3;have Dv:=FH hs6;clear hs6;have HG:=FH (lw (i:=b) (T:=T.tri i a b { mi with keys:=aR mi.keys C,kids:=aR mi.kids (C+1) } { mx with keys:=mx.keys++my.keys,vals:=mx.vals++my.vals,kids:=mx.kids++my.kids } my) (by unfold TM.tri;simp only [FV];rw [zZ.out];exact lt3) (by unfold TM.tri;simp only [FV];exact Cz.out) DP.out ⟨_,_,_,zA.out.done xr.out,Dv.out⟩);go_wp2_with ((go_at_call 106;refine HG.out.mono ?_;rintro e20 w20 ⟨rfl,ha20⟩;have B2:=FH ha20;clear ha20));go_end0;exact⟨rfl,B2.out⟩
theorem sd {B w:World}{D:PH}{t:Nat}{T:TM}{l:List HP}{i C a b q:Nat}{mi mx my:NodeM}{sk:Val}(hi:T.nodes[i]?=some mi)(hx:T.nodes[a]?=some mx)(hy:T.nodes[b]?=some my)(hia:i≠a)(hib:i≠b)(hab:a≠b)(hca:mi.kids[C]?=some a)(hcb:mi.kids[C+1]?=some b)(hkC:C<mi.keys.length)(hmb:mi.kids.length≤1000)(hlx:mx.leaf=false)(hik:mi.keys.length=q+1)(hid:mi.kids.length=q+2)
  (hxb:mx.keys.length≤1000) (hxv:mx.vals.length≤1000) (hxd:mx.kids.length≤1000) (hyb:my.keys.length≤1000) (hyv:my.vals.length≤1000) (hyd:my.kids.length≤1000) (hsk:mi.keys[C]?=some sk) (hnb:T.nodes.length≤1000000) (hfb:T.free.length≤1000000) (h:TreeA B D w t T l) :
  Calls Tryz.prog 134 #[.pointer (some ⟨t,0,none⟩),.int .i64 i,.int .i64 (C:Int)] w fun e w'=>e = .returned (.tuple #[]) ∧
   TreeA B D w' t ((T.tri i a b { mi with keys:=aR mi.keys C,kids:=aR mi.kids (C+1) } { mx with keys:=(mx.keys ++ [sk])++my.keys,vals:=mx.vals++my.vals,kids:=mx.kids++my.kids } my).give b) l:=by
 obtain⟨nv,fv,ns,hns,hs⟩:=h;obtain⟨⟨ikv,ivv,idv⟩,hpi⟩:=aK hns hi;obtain⟨⟨xkv,xvv,xdv⟩,hpx⟩:=aK hns hx;obtain⟨⟨ykv,yvv,ydv⟩,hpy⟩:=aK hns hy;have hTr:Tri ns ns i a b _ _ _:=⟨hpi,hpx,hpy,fun _ _ _ _=>rfl,rfl,hia,hib,hab⟩;obtain⟨lt1,lt2,lt3⟩:=hTr.lt;obtain⟨g,cn,rfl,_,hcm⟩:=hs.nv_some (by omega);unfold maxLen at hcm;have hclt:=(FO.1 hcb).1;obtain⟨ikg,ikc,hikv,hikc,_⟩:=aF (Sat.own (hs.focus hpi) 0 rfl) (by show 0<mi.keys.length;omega);obtain⟨idg,idc,hidv,_,_⟩:=aF (Sat.own (hs.focus hpi) 2 rfl) (by show 0<mi.kids.length;omega);obtain⟨xko,xkc,hxkv⟩:=(hs.focus hpx).own_shape;obtain⟨xvo,xvc,hxvv⟩:=(hs.focus hpx).drop.own_shape;obtain⟨xdo,xdc,hxdv⟩:=(hs.focus hpx).drop.drop.own_shape;obtain⟨yko,ykc,hykv⟩:=(hs.focus hpy).own_shape;obtain⟨yvo,yvc,hyvv⟩:=(hs.focus hpy).drop.own_shape;obtain⟨ydo,ydc,hydv⟩:=(hs.focus hpy).drop.drop.own_shape;dsimp only at hikv hidv hykv hyvv hydv hxkv hxvv hxdv hikc;have hnl:T.nodes.length=ns.length:=by rw [←hns,FZ]
 subst hikv hidv hykv hyvv hydv hxkv hxvv hxdv;generalize hN:ns.length=N at *;have hib1:(i:Int)<(N:Int):=by omega
 have hab1:(a:Int)<(N:Int):=by omega
 have hbb1:(b:Int)<(N:Int):=by omega
 have hC1:(C:Int)<(mi.kids.length:Int):=by omega
 have hC2:(C:Int)+1<(mi.kids.length:Int):=by omega
 have hC3:(C:Int)<(mi.keys.length:Int):=by omega
 have hwC:IntKind.i64.wrap ((C:Int)+1-1)=(C:Int):=by rw [cq _ (by omega) (by omega)];omega
 have hwC0:IntKind.i64.wrap (C:Int)=(C:Int):=cq _ (by omega) (by omega);have hwq0:IntKind.i64.wrap (q:Int)=(q:Int):=cq _ (by omega) (by omega);have hwC1:IntKind.i64.wrap ((C:Int)+1)=(C:Int)+1:=cq _ (by omega) (by omega);have hwC2:IntKind.i64.wrap ((C:Int)+2)=(C:Int)+1+1:=by rw [cq _ (by omega) (by omega)];omega
 have hwq:IntKind.i64.wrap ((q:Int)+1-1)=(q:Int):=by rw [cq _ (by omega) (by omega)];omega
 have hwq1:IntKind.i64.wrap ((q:Int)+1)=(q:Int)+1:=cq _ (by omega) (by omega);have hqi:(q:Int)<(q:Int)+1:=by omega
 have hq01:0≤(q:Int)+1:=by omega
 have hC01:0≤(C:Int)+1:=by omega
 obtain⟨t0,t1,t2,t3,t4,tf⟩:=hs.tcells;obtain⟨i0,i1,i2,i3,nf⟩:=hs.node_cells hTr.hi;obtain⟨x0,x1,x2,x3,_⟩:=hs.node_cells hTr.ha;obtain⟨y0,y1,y2,y3,_⟩:=hs.node_cells hTr.hb;have hca1:=bD (hs.kids_rd hpi) hca;have hcb1:=bD (hs.kids_rd hpi) hcb;dsimp only at i0 i1 i2 i3 x0 x1 x2 x3 y0 y1 y2 y3 hca1 hcb1;have HS:=FH hs;have HT:=FH hTr;have xr:=FH hns;have zg:=FH hlx;have CQ:=FH hik;have DO:=FH hid;have zY:=FH hsk;have Cz:=FH hnb;have DP:=FH hfb;have zZ:=FH hnl;clear hlx hik hid hsk hnb hfb hnl;clear hs hTr hns hi hx hy hia hib hab hca hcb hpi hpx hpy hN
 push_cast
 go_enter Tryz.func134,Tryz.ntmps134;go_upto_region 2 with (fail)
 go_quiet (fail)
 have hs1:=HS.out.kept ((Kept.refl (fun _=>False) w).drewN nq);obtain⟨W1,hW1⟩:∃W1,W1=w.drewN nq:=⟨_,rfl⟩;rw [←hW1]at hs1 ⊢;clear hW1 HS t0 t1 t2 t3 t4 tf i0 i1 i2 i3 nf x0 x1 x2 x3 y0 y1 y2 y3 hca1 hcb1;obtain⟨i0,i1,i2,i3,nf⟩:=hs1.node_cells HT.out.hi;obtain⟨x0,x1,x2,x3,_⟩:=hs1.node_cells HT.out.ha;obtain⟨y0,y1,y2,y3,_⟩:=hs1.node_cells HT.out.hb;dsimp only at i0 i1 i2 i3 x0 x1 x2 x3 y0 y1 y2 y3;have wG:=FH hs1;clear hs1;rw [zg.out]at x0;have hrk:=wG.out.keys_rd HT.out.hi;dsimp only at hrk;obtain⟨j0,j1,j2⟩:=aE hrk zY.out;simp only [Nat.zero_add,Nat.zero_mul]at j0 j1 j2;clear hrk;go_upto_region 4 with (fail)
 refine aH [rq 0 16,rq 1 13,rq 2 13,rq 3 13,rq 4 13,rq 5 12,rq 6 12,rq 7 12,rq 8 12,rq 9 12,rq 10 12,rq 11 12,(12,true,0),(13,true,0),rq 14 16,rq 15 16,(16,true,0)] ?_;iterate 12 (refine ae rfl rfl fun K hK=>?_;go_simp;apply hK;clear hK K)
 refine af rfl ?_;refine wpList_plain rfl fun K hK=>?_;go_simp;refine hK _ _ ?_;clear hK K;refine wpList_nil ?_;have hal:=(wG.out.alloc #[.bool sk.t,.int .i64 sk.n,.string sk.s] tV).drew;have hrb:=lH (size:=3) (cs:=Val.cells sk) (Sat.blk hal 4 rfl) rfl;have hal2:=hal.drop;obtain⟨W2,hW2,hal2⟩:=hal2.hide;rw [←hW2]at hrb ⊢;generalize W1.heap.size=bx2 at hrb ⊢;clear hal hW2 wG j0 j1 j2 i0 i1 i2 i3 nf x0 x1 x2 x3 y0 y1 y2 y3;obtain⟨i0,i1,i2,i3,nf⟩:=hal2.node_cells HT.out.hi;obtain⟨x0,x1,x2,x3,_⟩:=hal2.node_cells HT.out.ha;obtain⟨y0,y1,y2,y3,_⟩:=hal2.node_cells HT.out.hb;dsimp only at i0 i1 i2 i3 x0 x1 x2 x3 y0 y1 y2 y3;have hrk:=hal2.keys_rd HT.out.hi;dsimp only at hrk;obtain⟨j0,j1,j2⟩:=aE hrk zY.out;simp only [Nat.zero_add,Nat.zero_mul]at j0 j1 j2;clear hrk;have xI:=FH hal2;have zw:=FH hrb;clear hal2 hrb;apply And.intro
 ·go_simp
 refine af rfl ?_;refine dy rfl _ _ rfl (new:=[sk]) xI.out HT.out.ha rfl rfl (by rw [List.flatMap_singleton];exact zw.out) (by show mx.keys.length+1≤10000;omega) ?_;intro o2 c2 w2 y1' nf' hs2;rw [Gh]at hs2;obtain⟨ns2,hT2,hs2⟩:∃ns2,Tri ns ns2 i a b (⟨.slice (some ⟨ikg,0,none⟩) mi.keys.length ikc,ivv,.slice (some ⟨idg,0,none⟩) mi.kids.length idc⟩,mi) (⟨.slice o2 (mx.keys.length+1) c2,.slice xvo mx.vals.length xvc,.slice xdo mx.kids.length xdc⟩,{ mx with keys:=mx.keys ++ [sk] }) (⟨.slice yko my.keys.length ykc,.slice yvo my.vals.length yvc,.slice ydo my.kids.length ydc⟩,my)∧TreeS B D _ t (.slice (some ⟨g,0,none⟩) N cn) fv ns2 T.free T.k l:=⟨_,HT.out.set_a _,hs2⟩;have wJ:=FH hs2;have xn:=FH hT2;clear hs2 hT2 xI zw j0 j1 j2 i0 i1 i2 i3 nf x0 x1 x2 x3 y0 y1 y2 y3;refine wpList_nil ?_;apply And.intro
 ·go_simp
 iterate 2 (refine ae rfl rfl fun K hK=>?_;go_simp;apply hK;clear hK K)
 refine af rfl ?_;refine wpList_plain rfl fun K hK=>?_;go_simp;refine hK _ _ ?_;clear hK K;refine wpList_nil ?_;apply And.intro
 ·go_simp
 refine ag ?_;go_upto_region 5 with (fail)
 obtain⟨V2,hV2,hs2⟩:=wJ.out.hide;rw [←hV2];clear hV2 wJ y1' nf';obtain⟨i0,i1,i2,i3,nf⟩:=hs2.node_cells xn.out.hi;obtain⟨x0,x1,x2,x3,_⟩:=hs2.node_cells xn.out.ha;obtain⟨y0,y1,y2,y3,_⟩:=hs2.node_cells xn.out.hb;dsimp only at i0 i1 i2 i3 x0 x1 x2 x3 y0 y1 y2 y3;have yz:=FH hs2;clear hs2;obtain⟨kx,hkx⟩:∃kx,mx.keys ++ [sk]=kx:=⟨_,rfl⟩;have hkl:kx.length=mx.keys.length+1:=by rw [←hkx];simp
 rw [hkx]at xn;have EZ:=FH hkx;have DQ:=FH hkl;clear hkx hkl;have had:=yz.out.drew;have hrd:=had.keys_rd xn.out.hb;go_upto_region 5 with (fail)
 refine aH [rq 0 12,rq 1 9,rq 2 9,rq 3 9,rq 4 9,rq 5 9,rq 6 9,rq 7 9,rq 8 9,(9,true,0),rq 10 12,rq 11 12,(12,true,0)] ?_;iterate 9 (refine ae rfl rfl fun K hK=>?_;go_simp;apply hK;clear hK K)
 refine af rfl ?_;refine dy rfl _ _ rfl (new:=my.keys) had xn.out.ha rfl rfl hrd (by show kx.length+my.keys.length≤10000;rw [DQ.out];omega) ?_;intro o3 c3 w3 y1' nf' hs3;obtain⟨ns3,hT3,hs3⟩:∃ns3,Tri ns ns3 i a b (⟨.slice (some ⟨ikg,0,none⟩) mi.keys.length ikc,ivv,.slice (some ⟨idg,0,none⟩) mi.kids.length idc⟩,mi) (⟨.slice o3 (kx.length+my.keys.length) c3,.slice xvo mx.vals.length xvc,.slice xdo mx.kids.length xdc⟩,{ mx with keys:=kx++my.keys }) (⟨.slice yko my.keys.length ykc,.slice yvo my.vals.length yvc,.slice ydo my.kids.length ydc⟩,my)∧TreeS B D _ t (.slice (some ⟨g,0,none⟩) N cn) fv ns3 T.free T.k l:=⟨_,xn.out.set_a _,hs3⟩;have wI:=FH hs3;have xu:=FH hT3;clear hs3 hT3 had hrd yz i0 i1 i2 i3 nf x0 x1 x2 x3 y0 y1 y2 y3;refine wpList_nil ?_;apply And.intro
 ·go_simp
 iterate 2 (refine ae rfl rfl fun K hK=>?_;go_simp;apply hK;clear hK K)
 refine af rfl ?_;refine wpList_plain rfl fun K hK=>?_;go_simp;refine hK _ _ ?_;clear hK K;refine wpList_nil ?_;apply And.intro
 ·go_simp
 refine ag ?_;go_upto_region 6 with (fail)
 obtain⟨V3,hV3,hs3⟩:=wI.out.hide;rw [←hV3];clear hV3 wI y1' nf';obtain⟨i0,i1,i2,i3,nf⟩:=hs3.node_cells xu.out.hi;obtain⟨x0,x1,x2,x3,_⟩:=hs3.node_cells xu.out.ha;obtain⟨y0,y1,y2,y3,_⟩:=hs3.node_cells xu.out.hb;dsimp only at i0 i1 i2 i3 x0 x1 x2 x3 y0 y1 y2 y3;have yT:=FH hs3;clear hs3;have had:=yT.out.drew;have hrd:=had.vals_rd xu.out.hb;go_upto_region 6 with (fail)
 refine aH [rq 0 12,rq 1 9,rq 2 9,rq 3 9,rq 4 9,rq 5 9,rq 6 9,rq 7 9,rq 8 9,(9,true,0),rq 10 12,rq 11 12,(12,true,0)] ?_;iterate 9 (refine ae rfl rfl fun K hK=>?_;go_simp;apply hK;clear hK K)
 refine af rfl ?_;refine eY rfl _ _ rfl (new:=my.vals) had xu.out.ha rfl rfl hrd (by show mx.vals.length+my.vals.length≤10000;omega) ?_;intro o4 c4 w4 y1' nf' hs4;obtain⟨ns4,hT4,hs4⟩:∃ns4,Tri ns ns4 i a b (⟨.slice (some ⟨ikg,0,none⟩) mi.keys.length ikc,ivv,.slice (some ⟨idg,0,none⟩) mi.kids.length idc⟩,mi) (⟨.slice o3 (kx.length+my.keys.length) c3,.slice o4 (mx.vals.length+my.vals.length) c4,.slice xdo mx.kids.length xdc⟩,{ mx with keys:=kx++my.keys,vals:=mx.vals++my.vals }) (⟨.slice yko my.keys.length ykc,.slice yvo my.vals.length yvc,.slice ydo my.kids.length ydc⟩,my)∧TreeS B D _ t (.slice (some ⟨g,0,none⟩) N cn) fv ns4 T.free T.k l:=⟨_,xu.out.set_a _,hs4⟩;have wO:=FH hs4;have xK:=FH hT4;clear hs4 hT4 had hrd yT i0 i1 i2 i3 nf x0 x1 x2 x3 y0 y1 y2 y3;refine wpList_nil ?_;apply And.intro
 ·go_simp
 iterate 2 (refine ae rfl rfl fun K hK=>?_;go_simp;apply hK;clear hK K)
 refine af rfl ?_;refine wpList_plain rfl fun K hK=>?_;go_simp;refine hK _ _ ?_;clear hK K;refine wpList_nil ?_;apply And.intro
 ·go_simp
 refine ag ?_;go_upto_region 7 with (fail)
 obtain⟨V4,hV4,hs4⟩:=wO.out.hide;rw [←hV4];clear hV4 wO y1' nf';obtain⟨i0,i1,i2,i3,nf⟩:=hs4.node_cells xK.out.hi;obtain⟨x0,x1,x2,x3,_⟩:=hs4.node_cells xK.out.ha;obtain⟨y0,y1,y2,y3,_⟩:=hs4.node_cells xK.out.hb;dsimp only at i0 i1 i2 i3 x0 x1 x2 x3 y0 y1 y2 y3;have za:=FH hs4;clear hs4;have had:=za.out.drew;have hrd:=had.kids_rd xK.out.hb;go_upto_region 7 with (fail)
 refine aH [rq 0 12,rq 1 9,rq 2 9,rq 3 9,rq 4 9,rq 5 9,rq 6 9,rq 7 9,rq 8 9,(9,true,0),rq 10 12,rq 11 12,(12,true,0)] ?_;iterate 9 (refine ae rfl rfl fun K hK=>?_;go_simp;apply hK;clear hK K)
 refine af rfl ?_;refine fe rfl _ _ rfl (new:=my.kids) had xK.out.ha rfl rfl hrd (by show mx.kids.length+my.kids.length≤10000;omega) ?_;intro o5 c5 w5 y1' nf' hs5;obtain⟨ns5,hT5,hs5⟩:∃ns5,Tri ns ns5 i a b (⟨.slice (some ⟨ikg,0,none⟩) mi.keys.length ikc,ivv,.slice (some ⟨idg,0,none⟩) mi.kids.length idc⟩,mi) (⟨.slice o3 (kx.length+my.keys.length) c3,.slice o4 (mx.vals.length+my.vals.length) c4,.slice o5 (mx.kids.length+my.kids.length) c5⟩,{ mx with keys:=kx++my.keys,vals:=mx.vals++my.vals,kids:=mx.kids++my.kids }) (⟨.slice yko my.keys.length ykc,.slice yvo my.vals.length yvc,.slice ydo my.kids.length ydc⟩,my)∧TreeS B D _ t (.slice (some ⟨g,0,none⟩) N cn) fv ns5 T.free T.k l:=⟨_,xK.out.set_a _,hs5⟩;have wT:=FH hs5;have xC:=FH hT5;clear hs5 hT5 had hrd za i0 i1 i2 i3 nf x0 x1 x2 x3 y0 y1 y2 y3;refine wpList_nil ?_;apply And.intro
 ·go_simp
 iterate 2 (refine ae rfl rfl fun K hK=>?_;go_simp;apply hK;clear hK K)
 refine af rfl ?_;refine wpList_plain rfl fun K hK=>?_;go_simp;refine hK _ _ ?_;clear hK K;refine wpList_nil ?_;apply And.intro
 ·go_simp
 refine ag ?_;go_upto_region 8 with (fail)
 obtain⟨V5,hV5,hs5⟩:=wT.out.hide;rw [←hV5];clear hV5 wT y1' nf';obtain⟨i0,i1,i2,i3,nf⟩:=hs5.node_cells xC.out.hi;obtain⟨x0,x1,x2,x3,_⟩:=hs5.node_cells xC.out.ha;obtain⟨y0,y1,y2,y3,_⟩:=hs5.node_cells xC.out.hb;dsimp only at i0 i1 i2 i3 x0 x1 x2 x3 y0 y1 y2 y3;have zz:=FH hs5;clear hs5;have hCq:C≤q:=by have:=CQ.out;omega
 go_upto_region 9 with ((go_at_call 119;refine(TreeS.del_keys (q:=C) (n:=q) zz.out xC.out.hi CQ.out hCq).mono ?_;rintro e6 w6 ⟨o6,c6,rfl,y1',nf',hs6⟩;have B1:=FH hs6;clear hs6 i0 i1 i2 i3 nf x0 x1 x2 x3 y0 y1 y2 y3))
 obtain⟨ns6,hT6,hs6⟩:∃ns6,Tri ns ns6 i a b (⟨.slice o6 q c6,ivv,.slice (some ⟨idg,0,none⟩) mi.kids.length idc⟩,{ mi with keys:=aR mi.keys C }) (⟨.slice o3 (kx.length+my.keys.length) c3,.slice o4 (mx.vals.length+my.vals.length) c4,.slice o5 (mx.kids.length+my.kids.length) c5⟩,{ mx with keys:=kx++my.keys,vals:=mx.vals++my.vals,kids:=mx.kids++my.kids }) (⟨.slice yko my.keys.length ykc,.slice yvo my.vals.length yvc,.slice ydo my.kids.length ydc⟩,my)∧TreeS B D _ t (.slice (some ⟨g,0,none⟩) N cn) fv ns6 T.free T.k l:=⟨_,xC.out.set_i _,B1.out⟩;have zA:=FH hT6;clear hT6;obtain⟨V6,hV6,hs6⟩:=hs6.hide;rw [←hV6];clear hV6 zz B1 y1' nf';obtain⟨i0,i1,i2,i3,nf⟩:=hs6.node_cells zA.out.hi;obtain⟨x0,x1,x2,x3,_⟩:=hs6.node_cells zA.out.ha;obtain⟨y0,y1,y2,y3,_⟩:=hs6.node_cells zA.out.hb;dsimp only at i0 i1 i2 i3 x0 x1 x2 x3 y0 y1 y2 y3;have Dv:=FH hs6;clear hs6;go_upto_region 10 with ((go_at_call 144;refine(TreeS.del_kids (q:=C+1) (n:=(q+1)) Dv.out zA.out.hi DO.out (by omega)).mono ?_;rintro e7 w7 ⟨o7,c7,rfl,y1',nf',hs7⟩;have EA:=FH hs7;clear hs7 i0 i1 i2 i3 nf x0 x1 x2 x3 y0 y1 y2 y3))
 obtain⟨ns7,hT7,hs7⟩:∃ns7,Tri ns ns7 i a b (⟨.slice o6 q c6,ivv,.slice o7 (q+1) c7⟩,{ mi with keys:=aR mi.keys C,kids:=aR mi.kids (C+1) }) (⟨.slice o3 (kx.length+my.keys.length) c3,.slice o4 (mx.vals.length+my.vals.length) c4,.slice o5 (mx.kids.length+my.kids.length) c5⟩,{ mx with keys:=kx++my.keys,vals:=mx.vals++my.vals,kids:=mx.kids++my.kids }) (⟨.slice yko my.keys.length ykc,.slice yvo my.vals.length yvc,.slice ydo my.kids.length ydc⟩,my)∧TreeS B D _ t (.slice (some ⟨g,0,none⟩) N cn) fv ns7 T.free T.k l:=⟨_,zA.out.set_i _,EA.out⟩;have AA:=FH hT7;clear hT7;obtain⟨V7,hV7,hs7⟩:=hs7.hide;rw [←hV7];clear hV7 Dv EA y1' nf';obtain⟨i0,i1,i2,i3,nf⟩:=hs7.node_cells AA.out.hi;obtain⟨x0,x1,x2,x3,_⟩:=hs7.node_cells AA.out.ha;obtain⟨y0,y1,y2,y3,_⟩:=hs7.node_cells AA.out.hb;dsimp only at i0 i1 i2 i3 x0 x1 x2 x3 y0 y1 y2 y3;have E0:=FH hs7;clear hs7;have HG:=FH (lw (i:=b) (T:=T.tri i a b { mi with keys:=aR mi.keys C,kids:=aR mi.kids (C+1) } { mx with keys:=kx++my.keys,vals:=mx.vals++my.vals,kids:=mx.kids++my.kids } my) (by unfold TM.tri;simp only [FV];rw [zZ.out];exact lt3) (by unfold TM.tri;simp only [FV];exact Cz.out) DP.out ⟨_,_,_,AA.out.done xr.out,E0.out⟩);go_wp2_with ((go_at_call 106;refine HG.out.mono ?_;rintro e20 w20 ⟨rfl,ha20⟩;have B2:=FH ha20;clear ha20));go_end0;rw [EZ.out];exact⟨rfl,B2.out⟩
def oH (B:World)(D:PH)(t:Nat)(T T':TM)(f:FuncId)(i:Nat)(c:Int):Prop:=∀(w:World) (l:List HP),TreeA B D w t T l→Calls Tryz.prog f #[.pointer (some ⟨t,0,none⟩),.int .i64 i,.int .i64 c] w fun e w'=>e = .returned (.tuple #[])∧TreeA B D w' t T' l
theorem tJ {B w:World}{D:PH}{t:Nat}{T T':TM}{l:List HP}{i C a:Nat}{mi ma:NodeM}(hi:T.nodes[i]?=some mi)(hmb0:mi.kids.length≤1000)(ha:mi.kids[C]?=some a)(hma:T.nodes[a]?=some ma)(hza:2<ma.size)
  (hop:oH B D t T T' 132 i ((C+1:Nat):Int)) (h:TreeA B D w t T l) :
  Calls Tryz.prog 121 #[.pointer (some ⟨t,0,none⟩),.int .i64 i,.int .i64 ((C+1:Nat):Int)] w fun e w'=>e = .returned (.tuple #[])∧TreeA B D w' t T' l:=by
 have hA:=h;obtain⟨nv,fv,ns,hns,hs⟩:=h;obtain⟨⟨ikv,ivv,idv⟩,hpi⟩:=aK hns hi;have hlt:=(FO.1 hpi).1;obtain⟨g,cn,rfl,_,hcm⟩:=hs.nv_some (by omega);unfold maxLen at hcm;have hib:(i:Int)<(ns.length:Int):=by omega
 have hkl:0<mi.kids.length:=by have:=(FO.1 ha).1;omega
 obtain⟨idg,idc,hidv,_,_⟩:=aF (Sat.own (hs.focus hpi) 2 rfl) hkl;dsimp only at hidv;subst hidv;obtain⟨t0,t1,t2,t3,t4,tf⟩:=hs.tcells;obtain⟨i0,i1,i2,i3,nf⟩:=hs.node_cells hpi;dsimp only at i0 i1 i2 i3;have hal:=(FO.1 ha).1;have hac:=bD (hs.kids_rd hpi) ha;have wW:=FH (dK hma hA);have hCi:(C:Int)<(mi.kids.length:Int):=by omega
 have hza':(ma.size:Int) > 2:=by omega
 try dsimp only at hac
 have hw1:IntKind.i64.wrap ((C:Int)+1-1)=(C:Int):=by rw [cq _ (by omega) (by omega)];omega
 have hw0:IntKind.i64.wrap (C:Int)=(C:Int):=cq _ (by omega) (by omega);have hw2:IntKind.i64.wrap ((C:Int)+1+1)=(C:Int)+1+1:=cq _ (by omega) (by omega);have hc0:(C:Int)+1 > 0:=by omega
 have hc00:0<(C:Int)+1:=by omega
 have hc02:0≤(C:Int)+1+1:=by omega
 have zb:=FH (hop w l hA);clear hA hs hns hpi hi hop ha hma hza
 push_cast
 go_enter Tryz.func121,Tryz.ntmps121;go_wp2_with (first|(go_at_call 109;refine wW.out.mono ?_;rintro e3 w3 ⟨rfl,rfl⟩;clear wW)|(go_at_call 132;refine zb.out.mono ?_;rintro e5 w5 ⟨rfl,ha5⟩;have zW:=FH ha5;clear ha5));go_end0;exact⟨rfl,zW.out⟩
theorem qd {B w:World}{D:PH}{t:Nat}{T T':TM}{l:List HP}{i b:Nat}{mi mb:NodeM}(hi:T.nodes[i]?=some mi)(hmb0:mi.kids.length≤1000)(hb:mi.kids[1]?=some b)(hmb:T.nodes[b]?=some mb)(hzb:2<mb.size)
  (hop:oH B D t T T' 133 i 0) (h:TreeA B D w t T l) :
  Calls Tryz.prog 121 #[.pointer (some ⟨t,0,none⟩),.int .i64 i,.int .i64 0] w fun e w'=>e = .returned (.tuple #[])∧TreeA B D w' t T' l:=by
 have hA:=h;obtain⟨nv,fv,ns,hns,hs⟩:=h;obtain⟨⟨ikv,ivv,idv⟩,hpi⟩:=aK hns hi;have hlt:=(FO.1 hpi).1;obtain⟨g,cn,rfl,_,hcm⟩:=hs.nv_some (by omega);unfold maxLen at hcm;have hib:(i:Int)<(ns.length:Int):=by omega
 have hkl:0<mi.kids.length:=by have:=(FO.1 hb).1;omega
 obtain⟨idg,idc,hidv,_,_⟩:=aF (Sat.own (hs.focus hpi) 2 rfl) hkl;dsimp only at hidv;subst hidv;obtain⟨t0,t1,t2,t3,t4,tf⟩:=hs.tcells;obtain⟨i0,i1,i2,i3,nf⟩:=hs.node_cells hpi;dsimp only at i0 i1 i2 i3;have hbl:=(FO.1 hb).1;have hbc:=bD (hs.kids_rd hpi) hb;have xa:=FH (dK hmb hA);have hCb:(1:Int)<(mi.kids.length:Int):=by omega
 have hzb':(mb.size:Int) > 2:=by omega
 try dsimp only at hbc
 have zb:=FH (hop w l hA);clear hA hs hns hpi hi hop hb hmb hzb
 skip
 go_enter Tryz.func121,Tryz.ntmps121;go_wp2_with (first|(go_at_call 109;refine xa.out.mono ?_;rintro e4 w4 ⟨rfl,rfl⟩;clear xa)|(go_at_call 133;refine zb.out.mono ?_;rintro e5 w5 ⟨rfl,ha5⟩;have zW:=FH ha5;clear ha5));go_end0;exact⟨rfl,zW.out⟩
theorem qz {B w:World}{D:PH}{t:Nat}{T T':TM}{l:List HP}{i C a b:Nat}{mi ma mb:NodeM}(hi:T.nodes[i]?=some mi)(hmb0:mi.kids.length≤1000)(ha:mi.kids[C]?=some a)(hma:T.nodes[a]?=some ma)(hza:ma.size≤2)(hb:mi.kids[C+2]?=some b)(hmb:T.nodes[b]?=some mb)(hzb:2<mb.size)
  (hop:oH B D t T T' 133 i ((C+1:Nat):Int)) (h:TreeA B D w t T l) :
  Calls Tryz.prog 121 #[.pointer (some ⟨t,0,none⟩),.int .i64 i,.int .i64 ((C+1:Nat):Int)] w fun e w'=>e = .returned (.tuple #[])∧TreeA B D w' t T' l:=by
 have hA:=h;obtain⟨nv,fv,ns,hns,hs⟩:=h;obtain⟨⟨ikv,ivv,idv⟩,hpi⟩:=aK hns hi;have hlt:=(FO.1 hpi).1;obtain⟨g,cn,rfl,_,hcm⟩:=hs.nv_some (by omega);unfold maxLen at hcm;have hib:(i:Int)<(ns.length:Int):=by omega
 have hkl:0<mi.kids.length:=by have:=(FO.1 ha).1;omega
 obtain⟨idg,idc,hidv,_,_⟩:=aF (Sat.own (hs.focus hpi) 2 rfl) hkl;dsimp only at hidv;subst hidv;obtain⟨t0,t1,t2,t3,t4,tf⟩:=hs.tcells;obtain⟨i0,i1,i2,i3,nf⟩:=hs.node_cells hpi;dsimp only at i0 i1 i2 i3;have hal:=(FO.1 ha).1;have hac:=bD (hs.kids_rd hpi) ha;have wW:=FH (dK hma hA);have hCi:(C:Int)<(mi.kids.length:Int):=by omega
 have hza':¬((ma.size:Int) > 2):=by omega
 try dsimp only at hac
 have hw1:IntKind.i64.wrap ((C:Int)+1-1)=(C:Int):=by rw [cq _ (by omega) (by omega)];omega
 have hw0:IntKind.i64.wrap (C:Int)=(C:Int):=cq _ (by omega) (by omega);have hw2:IntKind.i64.wrap ((C:Int)+1+1)=(C:Int)+1+1:=cq _ (by omega) (by omega);have hc0:(C:Int)+1 > 0:=by omega
 have hc00:0<(C:Int)+1:=by omega
 have hc02:0≤(C:Int)+1+1:=by omega
 have hbl:=(FO.1 hb).1;have hbc:=bD (hs.kids_rd hpi) hb;have xa:=FH (dK hmb hA);have hCb:(C:Int)+1+1<(mi.kids.length:Int):=by omega
 have hzb':(mb.size:Int) > 2:=by omega
 try dsimp only at hbc
 have zb:=FH (hop w l hA);clear hA hs hns hpi hi hop ha hma hza hb hmb hzb
 push_cast
 go_enter Tryz.func121,Tryz.ntmps121;go_wp2_with (first|(go_at_call 109;refine wW.out.mono ?_;rintro e3 w3 ⟨rfl,rfl⟩;clear wW)|(go_at_call 109;refine xa.out.mono ?_;rintro e4 w4 ⟨rfl,rfl⟩;clear xa)|(go_at_call 133;refine zb.out.mono ?_;rintro e5 w5 ⟨rfl,ha5⟩;have zW:=FH ha5;clear ha5));go_end0;exact⟨rfl,zW.out⟩
theorem mQ {B w:World}{D:PH}{t:Nat}{T T':TM}{l:List HP}{i C a:Nat}{mi ma:NodeM}(hi:T.nodes[i]?=some mi)(hmb0:mi.kids.length≤1000)(ha:mi.kids[C]?=some a)(hma:T.nodes[a]?=some ma)(hza:ma.size≤2)(hlen:mi.kids.length=C+2)
  (hop:oH B D t T T' 134 i (C:Int)) (h:TreeA B D w t T l) :
  Calls Tryz.prog 121 #[.pointer (some ⟨t,0,none⟩),.int .i64 i,.int .i64 ((C+1:Nat):Int)] w fun e w'=>e = .returned (.tuple #[])∧TreeA B D w' t T' l:=by
 have hA:=h;obtain⟨nv,fv,ns,hns,hs⟩:=h;obtain⟨⟨ikv,ivv,idv⟩,hpi⟩:=aK hns hi;have hlt:=(FO.1 hpi).1;obtain⟨g,cn,rfl,_,hcm⟩:=hs.nv_some (by omega);unfold maxLen at hcm;have hib:(i:Int)<(ns.length:Int):=by omega
 have hkl:0<mi.kids.length:=by have:=(FO.1 ha).1;omega
 obtain⟨idg,idc,hidv,_,_⟩:=aF (Sat.own (hs.focus hpi) 2 rfl) hkl;dsimp only at hidv;subst hidv;obtain⟨t0,t1,t2,t3,t4,tf⟩:=hs.tcells;obtain⟨i0,i1,i2,i3,nf⟩:=hs.node_cells hpi;dsimp only at i0 i1 i2 i3;have hal:=(FO.1 ha).1;have hac:=bD (hs.kids_rd hpi) ha;have wW:=FH (dK hma hA);have hCi:(C:Int)<(mi.kids.length:Int):=by omega
 have hza':¬((ma.size:Int) > 2):=by omega
 try dsimp only at hac
 have hw1:IntKind.i64.wrap ((C:Int)+1-1)=(C:Int):=by rw [cq _ (by omega) (by omega)];omega
 have hw0:IntKind.i64.wrap (C:Int)=(C:Int):=cq _ (by omega) (by omega);have hw2:IntKind.i64.wrap ((C:Int)+1+1)=(C:Int)+1+1:=cq _ (by omega) (by omega);have hc0:(C:Int)+1 > 0:=by omega
 have hc00:0<(C:Int)+1:=by omega
 have hc02:0≤(C:Int)+1+1:=by omega
 have hCb:¬((C:Int)+1+1<(mi.kids.length:Int)):=by omega
 have zb:=FH (hop w l hA);clear hA hs hns hpi hi hop ha hma hza
 push_cast
 go_enter Tryz.func121,Tryz.ntmps121;go_wp2_with (first|(go_at_call 109;refine wW.out.mono ?_;rintro e3 w3 ⟨rfl,rfl⟩;clear wW)|(go_at_call 134;refine zb.out.mono ?_;rintro e5 w5 ⟨rfl,ha5⟩;have zW:=FH ha5;clear ha5));go_end0;exact⟨rfl,zW.out⟩
theorem rP {B w:World}{D:PH}{t:Nat}{T T':TM}{l:List HP}{i C a b:Nat}{mi ma mb:NodeM}(hi:T.nodes[i]?=some mi)(hmb0:mi.kids.length≤1000)(ha:mi.kids[C]?=some a)(hma:T.nodes[a]?=some ma)(hza:ma.size≤2)(hb:mi.kids[C+2]?=some b)(hmb:T.nodes[b]?=some mb)(hzb:mb.size≤2)
  (hop:oH B D t T T' 134 i (C:Int)) (h:TreeA B D w t T l) :
  Calls Tryz.prog 121 #[.pointer (some ⟨t,0,none⟩),.int .i64 i,.int .i64 ((C+1:Nat):Int)] w fun e w'=>e = .returned (.tuple #[])∧TreeA B D w' t T' l:=by
 have hA:=h;obtain⟨nv,fv,ns,hns,hs⟩:=h;obtain⟨⟨ikv,ivv,idv⟩,hpi⟩:=aK hns hi;have hlt:=(FO.1 hpi).1;obtain⟨g,cn,rfl,_,hcm⟩:=hs.nv_some (by omega);unfold maxLen at hcm;have hib:(i:Int)<(ns.length:Int):=by omega
 have hkl:0<mi.kids.length:=by have:=(FO.1 ha).1;omega
 obtain⟨idg,idc,hidv,_,_⟩:=aF (Sat.own (hs.focus hpi) 2 rfl) hkl;dsimp only at hidv;subst hidv;obtain⟨t0,t1,t2,t3,t4,tf⟩:=hs.tcells;obtain⟨i0,i1,i2,i3,nf⟩:=hs.node_cells hpi;dsimp only at i0 i1 i2 i3;have hal:=(FO.1 ha).1;have hac:=bD (hs.kids_rd hpi) ha;have wW:=FH (dK hma hA);have hCi:(C:Int)<(mi.kids.length:Int):=by omega
 have hza':¬((ma.size:Int) > 2):=by omega
 try dsimp only at hac
 have hw1:IntKind.i64.wrap ((C:Int)+1-1)=(C:Int):=by rw [cq _ (by omega) (by omega)];omega
 have hw0:IntKind.i64.wrap (C:Int)=(C:Int):=cq _ (by omega) (by omega);have hw2:IntKind.i64.wrap ((C:Int)+1+1)=(C:Int)+1+1:=cq _ (by omega) (by omega);have hc0:(C:Int)+1 > 0:=by omega
 have hc00:0<(C:Int)+1:=by omega
 have hc02:0≤(C:Int)+1+1:=by omega
 have hbl:=(FO.1 hb).1;have hbc:=bD (hs.kids_rd hpi) hb;have xa:=FH (dK hmb hA);have hCb:(C:Int)+1+1<(mi.kids.length:Int):=by omega
 have hzb':¬((mb.size:Int) > 2):=by omega
 try dsimp only at hbc
 have zb:=FH (hop w l hA);clear hA hs hns hpi hi hop ha hma hza hb hmb hzb
 push_cast
 go_enter Tryz.func121,Tryz.ntmps121;go_wp2_with (first|(go_at_call 109;refine wW.out.mono ?_;rintro e3 w3 ⟨rfl,rfl⟩;clear wW)|(go_at_call 109;refine xa.out.mono ?_;rintro e4 w4 ⟨rfl,rfl⟩;clear xa)|(go_at_call 134;refine zb.out.mono ?_;rintro e5 w5 ⟨rfl,ha5⟩;have zW:=FH ha5;clear ha5));go_end0;exact⟨rfl,zW.out⟩
theorem ri {B w:World}{D:PH}{t:Nat}{T T':TM}{l:List HP}{i b:Nat}{mi mb:NodeM}(hi:T.nodes[i]?=some mi)(hmb0:mi.kids.length≤1000)(hb:mi.kids[1]?=some b)(hmb:T.nodes[b]?=some mb)(hzb:mb.size≤2)
  (hop:oH B D t T T' 134 i 0) (h:TreeA B D w t T l) :
  Calls Tryz.prog 121 #[.pointer (some ⟨t,0,none⟩),.int .i64 i,.int .i64 0] w fun e w'=>e = .returned (.tuple #[])∧TreeA B D w' t T' l:=by
 have hA:=h;obtain⟨nv,fv,ns,hns,hs⟩:=h;obtain⟨⟨ikv,ivv,idv⟩,hpi⟩:=aK hns hi;have hlt:=(FO.1 hpi).1;obtain⟨g,cn,rfl,_,hcm⟩:=hs.nv_some (by omega);unfold maxLen at hcm;have hib:(i:Int)<(ns.length:Int):=by omega
 have hkl:0<mi.kids.length:=by have:=(FO.1 hb).1;omega
 obtain⟨idg,idc,hidv,_,_⟩:=aF (Sat.own (hs.focus hpi) 2 rfl) hkl;dsimp only at hidv;subst hidv;obtain⟨t0,t1,t2,t3,t4,tf⟩:=hs.tcells;obtain⟨i0,i1,i2,i3,nf⟩:=hs.node_cells hpi;dsimp only at i0 i1 i2 i3;have hbl:=(FO.1 hb).1;have hbc:=bD (hs.kids_rd hpi) hb;have xa:=FH (dK hmb hA);have hCb:(1:Int)<(mi.kids.length:Int):=by omega
 have hzb':¬((mb.size:Int) > 2):=by omega
 try dsimp only at hbc
 have zb:=FH (hop w l hA);clear hA hs hns hpi hi hop hb hmb hzb
 skip
 go_enter Tryz.func121,Tryz.ntmps121;go_wp2_with (first|(go_at_call 109;refine xa.out.mono ?_;rintro e4 w4 ⟨rfl,rfl⟩;clear xa)|(go_at_call 134;refine zb.out.mono ?_;rintro e5 w5 ⟨rfl,ha5⟩;have zW:=FH ha5;clear ha5));go_end0;exact⟨rfl,zW.out⟩
def qZ (T T':TM)(i c:Nat):Prop:=∀ {B:World} {D:PH} {t:Nat} (w:World) (l:List HP),TreeA B D w t T l→Calls Tryz.prog 121 #[.pointer (some ⟨t,0,none⟩),.int .i64 i,.int .i64 c] w fun e w'=>e = .returned (.tuple #[])∧TreeA B D w' t T' l
inductive TM.RemR (k:Val):TM→Nat→TM→Bool→Prop
 | absent {T:TM} {i:Nat} {m:NodeM} (hi:T.nodes[i]?=some m) (hl:m.leaf=true) (hkb:m.keys.length≤1000) (his:dW m.keys k=false):TM.RemR k T i T false
 | found {T:TM} {i:Nat} {m:NodeM} (hi:T.nodes[i]?=some m) (hl:m.leaf=true) (hkb:m.keys.length≤1000) (hv:m.vals.length=m.keys.length) (his:dW m.keys k=true):TM.RemR k T i { T with nodes:=T.nodes.set i { m with keys:=aR m.keys (bg m.keys k),vals:=aR m.vals (bg m.keys k) } } true
 | inner {T T1:TM} {i kid:Nat} {m mk:NodeM} {b:Bool} (hi:T.nodes[i]?=some m) (hl:m.leaf=false) (hkb:m.keys.length≤1000) (hc:m.kids[bu m.keys k]?=some kid) (hp:TM.RemR k T kid T1 b) (hk:T1.nodes[kid]?=some mk) (hz:2≤mk.size):TM.RemR k T i T1 b
 | mended {T T1 T2:TM} {i kid:Nat} {m mk:NodeM} {b:Bool} (hi:T.nodes[i]?=some m) (hl:m.leaf=false) (hkb:m.keys.length≤1000) (hc:m.kids[bu m.keys k]?=some kid) (hp:TM.RemR k T kid T1 b) (hk:T1.nodes[kid]?=some mk) (hz:mk.size<2) (hm:qZ T1 T2 i (bu m.keys k)):TM.RemR k T i T2 b
theorem jQ {B w:World}{D:PH}{t:Nat}{T T1 T2:TM}{l:List HP}{i kid:Nat}{m mk:NodeM}{k:Val}{b:Bool}(hi:T.nodes[i]?=some m)(hl:m.leaf=false)(hkb:m.keys.length≤1000)(hc:m.kids[bu m.keys k]?=some kid)
  (ih:∀(w:World) (l:List HP),TreeA B D w t T l→Calls Tryz.prog 105 #[.pointer (some ⟨t,0,none⟩),.int .i64 kid,k.v] w fun e w'=>e = .returned (.bool b)∧TreeA B D w' t T1 l)
  (hk:T1.nodes[kid]?=some mk) (hz:(2≤mk.size∧T2=T1)∨(mk.size<2∧qZ T1 T2 i (bu m.keys k))) (h:TreeA B D w t T l) :
  Calls Tryz.prog 105 #[.pointer (some ⟨t,0,none⟩),.int .i64 i,k.v] w fun e w'=>e = .returned (.bool b)∧TreeA B D w' t T2 l:=by
 obtain⟨nv,fv,ns,hns,hs⟩:=h;obtain⟨⟨kv,vv,dv⟩,hp⟩:=aK hns hi;have hlt:=(FO.1 hp).1;obtain⟨g,c,rfl,_,hcm⟩:=hs.nv_some (by omega);unfold maxLen at hcm;have hs1:=hs.alloc #[.bool k.t,.int .i64 k.n,.string k.s] tV;have hib:(i:Int)<(ns.length:Int):=by omega
 have wG:=FH hs1;have HP:=FH hp;have xr:=FH hns;have HL:=FH hl;have hcl:=(FO.1 hc).1;have HC:=FH hc;have HI:=FH hi;have IH:=FH ih;have HK:=FH hk;have hkb2:m.keys.length≤1000000:=by omega
 clear hs hs1 hp hi hns hl hc ih hk;dsimp only [Val.v];go_enter Tryz.func105,Tryz.ntmps105;go_upto_region 1 with (fail)
 obtain⟨W,hW,hs2⟩:=wG.out.hide;rw [←hW];clear wG hW;generalize w.heap.size=bk at hs2 ⊢;obtain⟨t0,t1,t2,t3,t4,tf⟩:=hs2.tcells;obtain⟨n0,n1,n2,n3,nf⟩:=hs2.node_cells HP.out;obtain⟨x0,x1,x2,xf⟩:=aQ (Sat.blk hs2 4 rfl);dsimp only at n0 n1 n2 n3;rw [HL.out]at n0;obtain⟨C,hC⟩:∃C,bu m.keys k=C:=⟨_,rfl⟩;have HB:=FH (j4 (i:=i) k HI.out hkb2 ⟨_,_,_,xr.out,hs2⟩);rw [hC]at HB HC hcl hz;have wJ:=FH hs2;have HZ:=FH hz;clear hs2 hC hz;go_upto_region 9 with ((go_at_call 102;refine HB.out.mono ?_;rintro e1 w1 ⟨rfl,hk1⟩;have hs3:=wJ.out.kept hk1;have wI:=FH hs3;clear hk1 wJ x0 x1 x2 xf t0 t1 t2 t3 t4 tf n0 n1 n2 n3 nf HB;clear hs3))
 have hs3:=wI.out;obtain⟨t0,t1,t2,t3,t4,tf⟩:=hs3.tcells;obtain⟨n0,n1,n2,n3,nf⟩:=hs3.node_cells HP.out;obtain⟨x0,x1,x2,xf⟩:=aQ (Sat.blk hs3 4 rfl);obtain⟨dg,dc,hdv,hdc1,hdc2⟩:=aF (Sat.own (hs3.focus HP.out) 2 rfl) (by show 0<m.kids.length;omega);dsimp only at n0 n1 n2 n3 hdv;subst hdv;have hcell:=bD (hs3.kids_rd HP.out) HC.out;have hcb:(C:Int)<(m.kids.length:Int):=by omega
 have BW:=FH (IH.out w1 _ ⟨_,_,_,xr.out,hs3⟩);clear hs3 wI;go_upto_region 11 with ((go_at_call 105;refine BW.out.mono ?_;rintro e2 w2 ⟨rfl,hs4⟩;have BX:=FH hs4;clear hs4 BW x0 x1 x2 xf t0 t1 t2 t3 t4 tf n0 n1 n2 n3 nf hcell))
 have xl:=FH (dK HK.out BX.out);rcases HZ.out with ⟨hz,rfl⟩|⟨hz,hsp⟩
 ·have hz':¬((mk.size:Int)<2):=by omega
  go_wp2_with ((go_at_call 109;refine xl.out.mono ?_;rintro e3 w3 ⟨rfl,rfl⟩));go_ret;obtain⟨nv4,fv4,ns4,hns4,hs4⟩:=BX.out;exact⟨rfl,_,_,_,hns4,hs4.drop⟩
 ·have hz':((mk.size:Int)<2):=by omega
  have DJ:=FH (hsp _ _ BX.out);clear hsp;go_wp2_with (first|(go_at_call 109;refine xl.out.mono ?_;rintro e3 w3 ⟨rfl,rfl⟩)|(go_at_call 121;refine DJ.out.mono ?_;rintro e5 w5 ⟨rfl,hs5⟩;have zW:=FH hs5;clear hs5));go_ret;obtain⟨nv5,fv5,ns5,hns5,hs5⟩:=zW.out;exact⟨rfl,_,_,_,hns5,hs5.drop⟩
theorem iR {B:World}{D:PH}{t:Nat}{T T':TM}{i:Nat}{k:Val}{b:Bool}(hp:TM.RemR k T i T' b):∀(w:World) (l:List HP),TreeA B D w t T l →
  Calls Tryz.prog 105 #[.pointer (some ⟨t,0,none⟩),.int .i64 i,k.v] w fun e w'=>e = .returned (.bool b)∧TreeA B D w' t T' l:=by
 induction hp with
 | absent hi hl hkb his=>intro w l h;exact nj hi hl hkb his h
 | found hi hl hkb hv his=>intro w l h;exact oS hi hl hkb hv his h
 | inner hi hl hkb hc hp hk hz ih=>intro w l h;exact jQ hi hl hkb hc ih hk (.inl ⟨hz,rfl⟩) h
 | mended hi hl hkb hc hp hk hz hm ih=>intro w l h;exact jQ hi hl hkb hc ih hk (.inr ⟨hz,hm⟩) h
end Go.Proofs.YtdobimafhbfkhaaGreat
