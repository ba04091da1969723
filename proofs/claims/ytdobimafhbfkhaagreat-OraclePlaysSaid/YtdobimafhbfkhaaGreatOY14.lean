/- The tree: contract of through, at a leaf. -/
import Derived.Test.YtdobimafhbfkhaaGreatOY12
import Derived.Test.YtdobimafhbfkhaaGreatOY4
import Derived.Test.YtdobimafhbfkhaaGreatOY13
set_option maxHeartbeats 64000000
namespace Go.Proofs.YtdobimafhbfkhaaGreat
open Go.ChangeShapes Go.WideShapes Go.ChangeAt Go.RowKit
set_option maxRecDepth 100000
set_option linter.unusedSimpArgs false
def TreeP (D:PH)(t:Nat)(T:TM):Prop:=∃nv fv ns,ns.map Prod.snd=T.nodes∧∀W:World,PH.le D (aB W)→∃l,TreeS W (fun _=>none) W t nv fv ns T.free T.k l
theorem TreeP.mono {D D':PH}{t:Nat}{T:TM}(h:TreeP D t T)(le:PH.le D D'):TreeP D' t T:=by
 obtain⟨nv,fv,ns,h1,h2⟩:=h;exact⟨nv,fv,ns,h1,fun W hW=>h2 W (le.trans hW)⟩
def NodeM.tell (m:NodeM)(s:Spn)(n:Nat):List (Val×VT):=((m.keys.zip m.vals).take n).filter (fun p=>bI s p.1)
theorem tn {m:NodeM}{s:Spn}{j:Nat}{x:Val}{v:VT}(hx:m.keys[j]?=some x)(hv:m.vals[j]?=some v):m.tell s (j+1)=m.tell s j++(if bI s x then [(x,v)]else []):=by
 have hz:(m.keys.zip m.vals)[j]?=some (x,v):=by rw [List.getElem?_zip_eq_some];exact⟨hx,hv⟩
 unfold NodeM.tell;rw [F3,hz,List.filter_append];cases h:bI s x<;>simp [h]
theorem pr {n₀:Nat}{Ow:World→Nat→Prop}(hO:Owner n₀ Ow){D:PH}{t l i:Nat}{V:List (Val×VT)→Prop}{T:TM}{m:NodeM}{s:Spn}{J Jx:List (Val×VT)→World→Prop}
  (hJ:∀pre W W',J pre W→Kept (fun _=>False) W W'→J pre W')
  (hY:∀n pre x W,J pre W→V (pre ++ [x])→YieldAt Fence.wide n Tryz.prog l #[x.1.v,x.2.v] W fun e W'=>(e = .returned (.bool true)∧J (pre ++ [x]) W'∧KpO Ow W W')∨(e = .returned (.bool false)∧Jx (pre ++ [x]) W'))
  (hi:T.nodes[i]?=some m) (hl:m.leaf=true) (hv:m.vals.length=m.keys.length) (hkb:m.keys.length≤1000) (hT:TreeP D t T)
  (pre:List (Val×VT)) (W:World) (hj:J pre W) (hN:∀p,p <+: pre++m.tell s m.keys.length→V p) (hit:ItOk n₀ Ow D W) :
  Calls Tryz.prog 85 #[.pointer (some ⟨t,0,none⟩),.int .i64 i,s.v,.func (.yield l) #[] #[]] W fun e W' =>
   (e = .returned (.bool true)∧J (pre++m.tell s m.keys.length) W'∧ItOk n₀ Ow D W')∨(e = .returned (.bool false)∧∃q,q <+: m.tell s m.keys.length∧Jx (pre++q) W'):=by
 obtain⟨nv,fv,ns,hns,hTS⟩:=hT;obtain⟨⟨kv,vv,dv⟩,hp⟩:=aK hns hi;have hlt:=(FO.1 hp).1;obtain⟨l0,hs0⟩:=hTS W hit.le;obtain⟨g,c,rfl,_,hcm⟩:=hs0.nv_some (by omega);unfold maxLen at hcm;have hib:(i:Int)<(ns.length:Int):=by omega
 obtain⟨ko,kc,hkv⟩:=(hs0.focus hp).own_shape;obtain⟨vo,vc,hvv⟩:=(hs0.focus hp).drop.own_shape;obtain⟨dO,dc,hdv⟩:=(hs0.focus hp).drop.drop.own_shape;dsimp only at hkv hvv hdv;subst hkv hvv hdv;have hk1:Kept (fun _=>False) W (W.alloc (.cells s.cells tS)):=(Kept.refl _ _).alloc _;have hb1:(W.alloc (.cells s.cells tS)).heap[W.heap.size]?=some (.cells s.cells tS (0,0)):=ak W _;have xB:=FH (hit.new hO hk1 hb1 (Gn _));have xp:=FH (hit.with_le (.cells s.cells tS (0,0)) (Gn _));have wN:=FH hk1;have wL:=FH hb1;have Am:=FH hTS;have HP:=FH hp;have HO:=FH hO;have HJ:=FH hJ;have HY:=FH hY;have Ae:=FH (hJ _ _ _ hj hk1);have HL:=FH hl;have Bq:=FH hv;clear hk1 hb1 hTS hp hit hO hJ hY hj hl hs0 hns hi hv;dsimp only [Spn.v];go_enter Tryz.func85,Tryz.ntmps85;go_upto_region 1 with (fail)
 obtain⟨W1,hW1⟩:∃W1,W1=W.alloc (.cells s.cells tS):=⟨_,rfl⟩;dsimp only [Spn.cells]at hW1;rw [←hW1];dsimp only [Spn.cells]at xB xp wN wL Ae;rw [←hW1]at wN wL xB Ae;generalize hD1:D.with W.heap.size (.cells #[.bool s.no,.bool s.hasLo,.bool s.openLo,.bool s.lo.t,.int .i64 s.lo.n,.string s.lo.s,.bool s.hasHi,.bool s.openHi,.bool s.hi.t,.int .i64 s.hi.n,.string s.hi.s] tS (0,0))=D1 at xB xp
 have Af:=FH (show D1 W.heap.size=some (.cells #[.bool s.no,.bool s.hasLo,.bool s.openLo,.bool s.lo.t,.int .i64 s.lo.n,.string s.lo.s,.bool s.hasHi,.bool s.openHi,.bool s.hi.t,.int .i64 s.hi.n,.string s.hi.s] tS (0,0)) by rw [←hD1];exact PH.with_self _ _ _);generalize W.heap.size=bs at wL Af ⊢;clear hW1 hD1;obtain⟨l1,hs1⟩:=Am.out W1 (xp.out.trans xB.out.le);obtain⟨t0,t1,t2,t3,t4,tf⟩:=hs1.tcells;obtain⟨n0,n1,n2,n3,nf⟩:=hs1.node_cells HP.out;dsimp only at n0 n1 n2 n3;rw [HL.out]at n0;have hb3:=((Sat.start W1).alloc #[.bool true,.slice ko m.keys.length kc,.slice vo m.vals.length vc,.slice dO m.kids.length dc] tN);have xL:=FH hb3;clear hs1 hb3;go_upto_region 2 with (fail)
 obtain⟨W2,hW2,hs2⟩:=xL.out.hide;rw [←hW2];have hk2:Kept (fun _=>False) W1 W2:=hs2.drop.end_ (PH.le.refl _);have hb2:=hs2.blk 0 rfl;have yY:=FH (xB.out.new HO.out hk2 hb2 (Gn _));have xe:=FH (xp.out.trans (xB.out.with_le (.cells #[.bool true,.slice ko m.keys.length kc,.slice vo m.vals.length vc,.slice dO m.kids.length dc] tN (0,0)) (Gn _)));have CG:=FH (HJ.out _ _ _ Ae.out hk2);generalize hD2:D1.with W1.heap.size (.cells #[.bool true,.slice ko m.keys.length kc,.slice vo m.vals.length vc,.slice dO m.kids.length dc] tN (0,0))=D2 at yY xe
 have zV:=FH (show D2 bs=some (.cells #[.bool s.no,.bool s.hasLo,.bool s.openLo,.bool s.lo.t,.int .i64 s.lo.n,.string s.lo.s,.bool s.hasHi,.bool s.openHi,.bool s.hi.t,.int .i64 s.hi.n,.string s.hi.s] tS (0,0)) by
  rw [←hD2];exact xB.out.with_le _ (Gn _) _ _ Af.out)
 have zm:=FH (show D2 W1.heap.size=some (.cells #[.bool true,.slice ko m.keys.length kc,.slice vo m.vals.length vc,.slice dO m.kids.length dc] tN (0,0)) by rw [←hD2];exact PH.with_self _ _ _);clear hD2;generalize W1.heap.size=bn at zm ⊢;clear hW2 hs2 hk2 hb2 xL wL xB xp Ae Af wN t0 t1 t2 t3 t4 tf n0 n1 n2 n3 nf;obtain⟨N0,hN0⟩:∃N0,m.keys.length=N0:=⟨_,rfl⟩;have zL:=FH hN0;have Dq:=FH (Bq.out.trans hN0);obtain⟨s0,s1,s2,s3,s4,s5,s6,s7,s8,s9,s10⟩:=Spn.at (s:=s) (yY.out.le _ _ zV.out);obtain⟨m0,m1,m2,m3,mf⟩:=gV (yY.out.le _ _ zm.out);rw [hN0]at hN HP zm hkb m1 ⊢;rw [Dq.out]at HP zm m2;have Bg:=FH hN;clear hN;clear hN0;clear s0 s1 s2 s3 s4 s5 s6 s7 s8 s9 s10 mf;go_wp2_with (fail);clear m0 m1 m2 m3
 go_loopw [28] (fun idx wr=>∃j:Nat,idx = .int .i64 j∧j≤N0∧J (pre++m.tell s j) wr∧ItOk n₀ Ow D2 wr) (fun idx _=>N0-(intOf idx).toNat)
 case atStart=>exact⟨0,rfl,Gp _,by simpa [NodeM.tell]using CG.out,yY.out⟩
 case round =>
  obtain⟨j,rfl,hjN,hj,hit⟩:=hrel;by_cases hlt2:j<N0
  ·obtain⟨x,hx⟩:∃x,m.keys[j]?=some x:=⟨m.keys[j]'(by rw [zL.out];exact hlt2),FP _⟩
   obtain⟨v,hv⟩:∃v,m.vals[j]?=some v:=⟨m.vals[j]'(by rw [Dq.out];exact hlt2),FP _⟩;have yJ:=FH (tn (s:=s) hx hv);obtain⟨lr,hsr⟩:=Am.out wr (xe.out.trans hit.le);have hrk:=hsr.keys_rd HP.out;have hrv:=hsr.vals_rd HP.out;dsimp only at hrk hrv;rw [zL.out]at hrk;obtain⟨kg,rfl⟩:∃kg,ko=some ⟨kg,0,none⟩:=by
    obtain⟨g2,c2,h2,_⟩:=aF (Sat.own (hsr.focus HP.out) 0 rfl) (by show 0<m.keys.length;rw [zL.out];omega);dsimp only at h2;rw [Value.slice.injEq]at h2;exact⟨g2,h2.1⟩
   obtain⟨vg,rfl⟩:∃vg,vo=some ⟨vg,0,none⟩:=by
    obtain⟨g2,c2,h2,_⟩:=aF (Sat.own (hsr.focus HP.out) 1 rfl) (by show 0<m.vals.length;rw [Dq.out];omega);dsimp only at h2;rw [Value.slice.injEq]at h2;exact⟨g2,h2.1⟩
   obtain⟨y0,y1,y2⟩:=aE hrk hx;simp only [Nat.zero_add]at y0 y1 y2;have hk3:Kept (fun _=>False) wr (wr.alloc (.cells #[.bool x.t,.int .i64 x.n,.string x.s] tV)):=(Kept.refl _ _).alloc _;have hb3:(wr.alloc (.cells #[.bool x.t,.int .i64 x.n,.string x.s] tV)).heap[wr.heap.size]?=some (.cells #[.bool x.t,.int .i64 x.n,.string x.s] tV (0,0)):=ak wr _;have zv:=FH (hit.new HO.out hk3 hb3 (Gn _));have xt:=FH (hit.with_le (.cells #[.bool x.t,.int .i64 x.n,.string x.s] tV (0,0)) (Gn _));have Br:=FH (HJ.out _ _ _ hj hk3);have HX:=FH hx;have HV:=FH hv;have hib2:(j:Int)<(N0:Int):=by omega
   clear hsr hrk hrv hk3 hb3 hj hit hx hv;go_upto_region 6 with (fail)
   obtain⟨W3,hW3⟩:∃W3,W3=wr.alloc (.cells #[.bool x.t,.int .i64 x.n,.string x.s] tV):=⟨_,rfl⟩;rw [←hW3]at zv Br ⊢;generalize hD3:D2.with wr.heap.size (.cells #[.bool x.t,.int .i64 x.n,.string x.s] tV (0,0))=D3 at zv xt
   have DG:=FH (show D3 wr.heap.size=some (.cells #[.bool x.t,.int .i64 x.n,.string x.s] tV (0,0)) by rw [←hD3];exact PH.with_self _ _ _);generalize wr.heap.size=bk at DG ⊢;clear hW3 hD3 y0 y1 y2;have hcell:∀W':World,ItOk n₀ Ow D3 W'→W'.cell? ⟨vg,j,none⟩=some (.slice v.ro v.rn v.rc):=by
    intro W' hI;obtain⟨lr,hsr⟩:=Am.out W' ((xe.out.trans xt.out).trans hI.le);have hrv:=hsr.vals_rd HP.out;dsimp only at hrv;rw [Dq.out]at hrv;obtain⟨_,_,hv,_,_,_,hc⟩:=hrv.2.2;cases hv;rcases hc with h0|⟨_,_,hg,hc⟩
    ·omega
    ·cases hg
     have:=hc _ _ (bB kV m.vals j v HV.out 0 _ rfl)
     simpa using this
   have CH:=FH hcell;obtain⟨s0,s1,s2,s3,s4,s5,s6,s7,s8,s9,s10⟩:=Spn.at (s:=s) (zv.out.le _ _ (xt.out _ _ zV.out));obtain⟨x0,x1,x2,xf⟩:=aQ (zv.out.le _ _ DG.out);clear hcell;cases hin:bI s x
   ·have Be:=FH hin
    clear hin;refine(wpIn_wide (n:=0)).1 ?_;refine fU [rq 0 2,rq 1 2,(2,true,0),rq 3 11,rq 4 11,rq 5 11,rq 6 11,rq 7 11,rq 8 11,rq 9 11,rq 10 11,(11,true,0),rq 12 999,rq 13 999] (by kernel_rfl) (by kernel_rfl) ?_;(iterate 2 (refine ep rfl rfl fun K hK=>?_;go_simp;apply hK;clear hK K));refine gI rfl ?_;refine il rfl fun K hK=>?_;go_simp;refine⟨trivial,rfl,callsIn_wide.2 ((nu s x _).mono ?_)⟩;rintro e4 w4 ⟨rfl,hk4⟩;have hk4':Kept (fun _=>False) W3 w4:=((Kept.refl _ _).drew).trans hk4 (fun _ h=>h.elim);have DH:=FH (zv.out.kept HO.out hk4');have EV:=FH (HJ.out _ _ _ Br.out hk4');rw [Be.out];clear hk4 hk4' s0 s1 s2 s3 s4 s5 s6 s7 s8 s9 s10 x0 x1 x2 xf;refine hK _ _ ?_;clear hK K;refine wpListIn_nil ?_;apply And.intro
    ·go_simp
    (iterate 8 (first|(refine iX rfl rfl ?_;simp only [Act.put,FI,FJ,FK,FL,FM,FN])|((first|refine ep rfl rfl (fun K hK=>?_)|refine gT rfl rfl fun K hK=>?_);go_simp;apply hK;clear hK K)));refine gI rfl ?_
    refine oW rfl ?_;simp only [Act.put,FI,FJ,FK];refine wpListIn_nil ?_;apply And.intro
    ·go_simp
    (iterate 2 (first|(refine iX rfl rfl ?_;simp only [Act.put,FI,FJ,FK,FL,FM,FN])|((first|refine ep rfl rfl (fun K hK=>?_)|refine gT rfl rfl fun K hK=>?_);go_simp;apply hK;clear hK K)));refine mD ?_
    go_wp2_with fail;go_roundw
    case rel=>exact⟨j+1,by go_num,by omega,by rw [yJ.out,Be.out];simpa using EV.out,DH.out.less xt.out⟩
    case measure=>simp [intOf];omega
   ·have Be:=FH hin
    clear hin;refine(wpIn_wide (n:=0)).1 ?_;refine fU [rq 0 2,rq 1 2,(2,true,0),rq 3 11,rq 4 11,rq 5 11,rq 6 11,rq 7 11,rq 8 11,rq 9 11,rq 10 11,(11,true,0),rq 12 999,rq 13 999] (by kernel_rfl) (by kernel_rfl) ?_;(iterate 2 (refine ep rfl rfl fun K hK=>?_;go_simp;apply hK;clear hK K));refine gI rfl ?_;refine il rfl fun K hK=>?_;go_simp;refine⟨trivial,rfl,callsIn_wide.2 ((nu s x _).mono ?_)⟩;rintro e4 w4 ⟨rfl,hk4⟩;have hk4':Kept (fun _=>False) W3 w4:=((Kept.refl _ _).drew).trans hk4 (fun _ h=>h.elim);have hI4:=zv.out.kept HO.out hk4';have hJ4:=HJ.out _ _ _ Br.out hk4';have hlen:V (pre++m.tell s j ++ [(x,v)]):=by
     have e:=yJ.out;rw [Be.out,if_pos rfl]at e;refine Bg.out _ ?_;rw [FU,←e];refine(List.prefix_append_right_inj pre).2 ?_;unfold NodeM.tell;have h1:((m.keys.zip m.vals).take (j+1)) <+: ((m.keys.zip m.vals).take N0):=List.take_prefix_take_left (by omega);exact h1.filter _
    obtain⟨fn,tm,asg,bd,hy,hR⟩:=HY.out 0 _ (x,v) w4 hJ4 hlen;dsimp only at hy hR;clear s0 s1 s2 s3 s4 s5 s6 s7 s8 s9 s10 x0 x1 x2 xf;obtain⟨s0,s1,s2,s3,s4,s5,s6,s7,s8,s9,s10⟩:=Spn.at (s:=s) (hI4.le _ _ (xt.out _ _ zV.out));obtain⟨x0,x1,x2,xf⟩:=aQ (hI4.le _ _ DG.out);obtain⟨m0,m1,m2,m3,mf⟩:=gV (hI4.le _ _ (xt.out _ _ zm.out));have hvc:=CH.out _ hI4;have DH:=FH hI4;have HR:=FH hR;rw [Be.out];clear hk4 hk4' hI4 hJ4 hlen hR;refine hK _ _ ?_;clear hK K;refine wpListIn_nil ?_;apply And.intro
    ·go_simp
    (iterate 8 (first|(refine iX rfl rfl ?_;simp only [Act.put,FI,FJ,FK,FL,FM,FN])|((first|refine ep rfl rfl (fun K hK=>?_)|refine gT rfl rfl fun K hK=>?_);go_simp;apply hK;clear hK K)));refine gI rfl ?_
    refine il rfl fun K hK=>?_;go_simp;refine⟨rfl,HR.out.mono ?_⟩;intro e5 w5 h5;obtain⟨bb,rfl,hyes,hno⟩:∃bb,e5 = .returned (.bool bb)∧(bb=true→J (pre++m.tell s j ++ [(x,v)]) w5∧KpO Ow w4 w5)∧(bb=false→Jx (pre++m.tell s j ++ [(x,v)]) w5):=by
     rcases h5 with ⟨rfl,a,b⟩|⟨rfl,a⟩
     ·exact⟨true,rfl,fun _=>⟨a,b⟩,fun h=>(by cases h)⟩
     ·exact⟨false,rfl,fun h=>(by cases h),fun _=>a⟩
    have An:=FH hyes;have yw:=FH hno;clear hyes hno h5 hy HR s0 s1 s2 s3 s4 s5 s6 s7 s8 s9 s10 x0 x1 x2 xf m0 m1 m2 m3 mf hvc;refine hK _ _ ?_;clear hK K;refine wpListIn_nil ?_;apply And.intro
    ·go_simp
    (iterate 2 (first|(refine iX rfl rfl ?_;simp only [Act.put,FI,FJ,FK,FL,FM,FN])|((first|refine ep rfl rfl (fun K hK=>?_)|refine gT rfl rfl fun K hK=>?_);go_simp;apply hK;clear hK K)));refine mD ?_
    cases bb
    ·go_wp2_with fail
     go_ret;refine .inr ⟨rfl,m.tell s j ++ [(x,v)],?_,by rw [←FU];exact yw.out (by trivial)⟩;have e:=yJ.out;rw [Be.out,if_pos rfl]at e;rw [←e,zL.out];unfold NodeM.tell;have h1:((m.keys.zip m.vals).take (j+1)) <+: ((m.keys.zip m.vals).take N0):=List.take_prefix_take_left (by omega);exact h1.filter _
    ·go_wp2_with fail
     go_roundw
     case rel=>exact⟨j+1,by go_num,by omega,by rw [yJ.out,Be.out,if_pos rfl,←FU];exact(An.out (by trivial)).1,(DH.out.kp (An.out (by trivial)).2).less xt.out⟩
     case measure=>simp [intOf];omega
  ·obtain rfl:j=N0:=by omega
   have CI:=FH hj;have CJ:=FH hit;clear hj hit;go_wp2_with (fail);go_ret;exact .inl ⟨rfl,by rw [zL.out];exact CI.out,CJ.out.less xe.out⟩
end Go.Proofs.YtdobimafhbfkhaaGreat
