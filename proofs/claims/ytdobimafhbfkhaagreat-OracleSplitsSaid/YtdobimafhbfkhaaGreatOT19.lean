/- The tree: contract of through, at a leaf. -/
import Derived.Test.YtdobimafhbfkhaaGreatOT16
import Derived.Test.YtdobimafhbfkhaaGreatOT17
import Derived.Test.YtdobimafhbfkhaaGreatOT5
import Derived.Test.YtdobimafhbfkhaaGreatOT18
set_option maxHeartbeats 64000000
namespace Go.Proofs.YtdobimafhbfkhaaGreat
open Go.ChangeShapes Go.WideShapes Go.ChangeAt Go.RowKit
set_option maxRecDepth 100000
set_option linter.unusedSimpArgs false
def TreeP (D:PH)(t:Nat)(T:TM):Prop:=∃nv fv ns,ns.map Prod.snd=T.nodes∧∀W:World,PH.le D (aD W)→∃l,TreeS W (fun _=>none) W t nv fv ns T.free T.k l
theorem TreeP.mono {D D':PH}{t:Nat}{T:TM}(h:TreeP D t T)(le:PH.le D D'):TreeP D' t T:=by
 obtain⟨nv,fv,ns,h1,h2⟩:=h
 exact⟨nv,fv,ns,h1,fun W hW=>h2 W (le.trans hW)⟩
def NodeM.tell (m:NodeM)(s:Spn)(n:Nat):List (Val×VT):=((m.keys.zip m.vals).take n).filter (fun p=>bL s p.1)
theorem qT {m:NodeM}{s:Spn}{j:Nat}{x:Val}{v:VT}(hx:m.keys[j]?=some x)(hv:m.vals[j]?=some v):m.tell s (j+1)=m.tell s j++(if bL s x then [(x,v)]else []):=by
 have hz:(m.keys.zip m.vals)[j]?=some (x,v):=by rw [List.getElem?_zip_eq_some];exact⟨hx,hv⟩
 unfold NodeM.tell
 rw [List.take_add_one,hz,List.filter_append]
 cases h:bL s x<;>simp [h]
theorem mC {n₀:Nat}{Ow:World→Nat→Prop}(hO:Owner n₀ Ow){D:PH}{t l i:Nat}{V:List (Val×VT)→Prop}{T:TM}{m:NodeM}{s:Spn}{J Jx:List (Val×VT)→World→Prop}
  (hJ:∀pre W W',J pre W→Kept (fun _=>False) W W'→J pre W')
  (hY:∀n pre x W,J pre W→V (pre ++ [x])→YieldAt Fence.wide n Tryz.prog l #[x.1.v,x.2.v] W fun e W'=>(e = .returned (.bool true)∧J (pre ++ [x]) W'∧KpO Ow W W')∨(e = .returned (.bool false)∧Jx (pre ++ [x]) W'))
  (hi:T.nodes[i]?=some m) (hl:m.leaf=true) (hv:m.vals.length=m.keys.length) (hkb:m.keys.length≤1000) (hT:TreeP D t T)
  (pre:List (Val×VT)) (W:World) (hj:J pre W) (hN:∀p,p <+: pre++m.tell s m.keys.length→V p) (hit:ItOk n₀ Ow D W) :
  Calls Tryz.prog 85 #[.pointer (some ⟨t,0,none⟩),.int .i64 i,s.v,.func (.yield l) #[] #[]] W fun e W' =>
   (e = .returned (.bool true)∧J (pre++m.tell s m.keys.length) W'∧ItOk n₀ Ow D W')∨(e = .returned (.bool false)∧∃q,q <+: m.tell s m.keys.length∧Jx (pre++q) W'):=by
 obtain⟨nv,fv,ns,hns,hTS⟩:=hT
 obtain⟨⟨kv,vv,dv⟩,hp⟩:=aH hns hi
 have hlt:=(List.getElem?_eq_some_iff.1 hp).1
 obtain⟨l0,hs0⟩:=hTS W hit.le
 obtain⟨g,c,rfl,_,hcm⟩:=hs0.nv_some (by omega)
 unfold maxLen at hcm
 have hib:(i:Int)<(ns.length:Int):=by omega
 obtain⟨ko,kc,hkv⟩:=(hs0.focus hp).own_shape
 obtain⟨vo,vc,hvv⟩:=(hs0.focus hp).drop.own_shape
 obtain⟨dO,dc,hdv⟩:=(hs0.focus hp).drop.drop.own_shape
 dsimp only at hkv hvv hdv
 subst hkv hvv hdv
 have hk1:Kept (fun _=>False) W (W.alloc (.cells s.cells tS)):=(Kept.refl _ _).alloc _
 have hb1:(W.alloc (.cells s.cells tS)).heap[W.heap.size]?=some (.cells s.cells tS (0,0)):=aw W _
 have uW:=CM (hit.new hO hk1 hb1 (Nat.le_refl _))
 have uP:=CM (hit.with_le (.cells s.cells tS (0,0)) (Nat.le_refl _))
 have uq:=CM hk1
 have um:=CM hb1
 have xq:=CM hTS
 have HP:=CM hp
 have HO:=CM hO
 have HJ:=CM hJ
 have HY:=CM hY
 have xg:=CM (hJ _ _ _ hj hk1)
 have HL:=CM hl
 have yF:=CM hv
 clear hk1 hb1 hTS hp hit hO hJ hY hj hl hs0 hns hi hv
 dsimp only [Spn.v]
 go_enter Tryz.func85,Tryz.ntmps85
 go_upto_region 1 with (fail)
 obtain⟨W1,hW1⟩:∃W1,W1=W.alloc (.cells s.cells tS):=⟨_,rfl⟩
 dsimp only [Spn.cells]at hW1
 rw [←hW1]
 dsimp only [Spn.cells]at uW uP uq um xg
 rw [←hW1]at uq um uW xg
 generalize hD1:D.with W.heap.size (.cells #[.bool s.no,.bool s.hasLo,.bool s.openLo,.bool s.lo.t,.int .i64 s.lo.n,.string s.lo.s,.bool s.hasHi,.bool s.openHi,.bool s.hi.t,.int .i64 s.hi.n,.string s.hi.s] tS (0,0))=D1 at uW uP
 have xh:=CM (show D1 W.heap.size=some (.cells #[.bool s.no,.bool s.hasLo,.bool s.openLo,.bool s.lo.t,.int .i64 s.lo.n,.string s.lo.s,.bool s.hasHi,.bool s.openHi,.bool s.hi.t,.int .i64 s.hi.n,.string s.hi.s] tS (0,0)) by rw [←hD1];exact PH.with_self _ _ _)
 generalize W.heap.size=bs at um xh ⊢
 clear hW1 hD1
 obtain⟨l1,hs1⟩:=xq.out W1 (uP.out.trans uW.out.le)
 obtain⟨t0,t1,t2,t3,t4,tf⟩:=hs1.tcells
 obtain⟨n0,n1,n2,n3,nf⟩:=hs1.node_cells HP.out
 dsimp only at n0 n1 n2 n3
 rw [HL.out]at n0
 have hb3:=((Sat.start W1).alloc #[.bool true,.slice ko m.keys.length kc,.slice vo m.vals.length vc,.slice dO m.kids.length dc] tN)
 have HB3:=CM hb3
 clear hs1 hb3
 go_upto_region 2 with (fail)
 obtain⟨W2,hW2,hs2⟩:=HB3.out.hide
 rw [←hW2]
 have hk2:Kept (fun _=>False) W1 W2:=hs2.drop.end_ (PH.le.refl _)
 have hb2:=hs2.blk 0 rfl
 have vX:=CM (uW.out.new HO.out hk2 hb2 (Nat.le_refl _))
 have uQ:=CM (uP.out.trans (uW.out.with_le (.cells #[.bool true,.slice ko m.keys.length kc,.slice vo m.vals.length vc,.slice dO m.kids.length dc] tN (0,0)) (Nat.le_refl _)))
 have zX:=CM (HJ.out _ _ _ xg.out hk2)
 generalize hD2:D1.with W1.heap.size (.cells #[.bool true,.slice ko m.keys.length kc,.slice vo m.vals.length vc,.slice dO m.kids.length dc] tN (0,0))=D2 at vX uQ
 have wW:=CM (show D2 bs=some (.cells #[.bool s.no,.bool s.hasLo,.bool s.openLo,.bool s.lo.t,.int .i64 s.lo.n,.string s.lo.s,.bool s.hasHi,.bool s.openHi,.bool s.hi.t,.int .i64 s.hi.n,.string s.hi.s] tS (0,0)) by
  rw [←hD2]
  exact uW.out.with_le _ (Nat.le_refl _) _ _ xh.out)
 have wj:=CM (show D2 W1.heap.size=some (.cells #[.bool true,.slice ko m.keys.length kc,.slice vo m.vals.length vc,.slice dO m.kids.length dc] tN (0,0)) by rw [←hD2];exact PH.with_self _ _ _)
 clear hD2
 generalize W1.heap.size=bn at wj ⊢
 clear hW2 hs2 hk2 hb2 HB3 um uW uP xg xh uq t0 t1 t2 t3 t4 tf n0 n1 n2 n3 nf
 obtain⟨N0,hN0⟩:∃N0,m.keys.length=N0:=⟨_,rfl⟩
 have wL:=CM hN0
 have AJ:=CM (yF.out.trans hN0)
 obtain⟨s0,s1,s2,s3,s4,s5,s6,s7,s8,s9,s10⟩:=Spn.at (s:=s) (vX.out.le _ _ wW.out)
 obtain⟨m0,m1,m2,m3,mf⟩:=fI (vX.out.le _ _ wj.out)
 rw [hN0]at hN HP wj hkb m1 ⊢
 rw [AJ.out]at HP wj m2
 have yu:=CM hN
 clear hN
 clear hN0
 clear s0 s1 s2 s3 s4 s5 s6 s7 s8 s9 s10 mf
 go_wp2_with (fail)
 clear m0 m1 m2 m3
 go_loopw [28] (fun idx wr=>∃j:Nat,idx = .int .i64 j∧j≤N0∧J (pre++m.tell s j) wr∧ItOk n₀ Ow D2 wr) (fun idx _=>N0-(intOf idx).toNat)
 case atStart=>exact⟨0,rfl,Nat.zero_le _,by simpa [NodeM.tell]using zX.out,vX.out⟩
 case round =>
  obtain⟨j,rfl,hjN,hj,hit⟩:=hrel
  by_cases hlt2:j<N0
  ·obtain⟨x,hx⟩:∃x,m.keys[j]?=some x:=⟨m.keys[j]'(by rw [wL.out];exact hlt2),List.getElem?_eq_getElem _⟩
   obtain⟨v,hv⟩:∃v,m.vals[j]?=some v:=⟨m.vals[j]'(by rw [AJ.out];exact hlt2),List.getElem?_eq_getElem _⟩
   have vG:=CM (qT (s:=s) hx hv)
   obtain⟨lr,hsr⟩:=xq.out wr (uQ.out.trans hit.le)
   have hrk:=hsr.keys_rd HP.out
   have hrv:=hsr.vals_rd HP.out
   dsimp only at hrk hrv
   rw [wL.out]at hrk
   obtain⟨kg,rfl⟩:∃kg,ko=some ⟨kg,0,none⟩:=by
    obtain⟨g2,c2,h2,_⟩:=aE (Sat.own (hsr.focus HP.out) 0 rfl) (by show 0<m.keys.length;rw [wL.out];omega)
    dsimp only at h2
    rw [Value.slice.injEq]at h2
    exact⟨g2,h2.1⟩
   obtain⟨vg,rfl⟩:∃vg,vo=some ⟨vg,0,none⟩:=by
    obtain⟨g2,c2,h2,_⟩:=aE (Sat.own (hsr.focus HP.out) 1 rfl) (by show 0<m.vals.length;rw [AJ.out];omega)
    dsimp only at h2
    rw [Value.slice.injEq]at h2
    exact⟨g2,h2.1⟩
   obtain⟨y0,y1,y2⟩:=aM hrk hx
   simp only [Nat.zero_add]at y0 y1 y2
   have hk3:Kept (fun _=>False) wr (wr.alloc (.cells #[.bool x.t,.int .i64 x.n,.string x.s] tV)):=(Kept.refl _ _).alloc _
   have hb3:(wr.alloc (.cells #[.bool x.t,.int .i64 x.n,.string x.s] tV)).heap[wr.heap.size]?=some (.cells #[.bool x.t,.int .i64 x.n,.string x.s] tV (0,0)):=aw wr _
   have wn:=CM (hit.new HO.out hk3 hb3 (Nat.le_refl _))
   have uX:=CM (hit.with_le (.cells #[.bool x.t,.int .i64 x.n,.string x.s] tV (0,0)) (Nat.le_refl _))
   have yG:=CM (HJ.out _ _ _ hj hk3)
   have HX:=CM hx
   have HV:=CM hv
   have hib2:(j:Int)<(N0:Int):=by omega
   clear hsr hrk hrv hk3 hb3 hj hit hx hv
   go_upto_region 6 with (fail)
   obtain⟨W3,hW3⟩:∃W3,W3=wr.alloc (.cells #[.bool x.t,.int .i64 x.n,.string x.s] tV):=⟨_,rfl⟩
   rw [←hW3]at wn yG ⊢
   generalize hD3:D2.with wr.heap.size (.cells #[.bool x.t,.int .i64 x.n,.string x.s] tV (0,0))=D3 at wn uX
   have A7:=CM (show D3 wr.heap.size=some (.cells #[.bool x.t,.int .i64 x.n,.string x.s] tV (0,0)) by rw [←hD3];exact PH.with_self _ _ _)
   generalize wr.heap.size=bk at A7 ⊢
   clear hW3 hD3 y0 y1 y2
   have hcell:∀W':World,ItOk n₀ Ow D3 W'→W'.cell? ⟨vg,j,none⟩=some (.slice v.ro v.rn v.rc):=by
    intro W' hI
    obtain⟨lr,hsr⟩:=xq.out W' ((uQ.out.trans uX.out).trans hI.le)
    have hrv:=hsr.vals_rd HP.out
    dsimp only at hrv
    rw [AJ.out]at hrv
    obtain⟨_,_,hv,_,_,_,hc⟩:=hrv.2.2
    cases hv
    rcases hc with h0|⟨_,_,hg,hc⟩
    ·omega
    ·cases hg
     have:=hc _ _ (bH jT m.vals j v HV.out 0 _ rfl)
     simpa using this
   have zY:=CM hcell
   obtain⟨s0,s1,s2,s3,s4,s5,s6,s7,s8,s9,s10⟩:=Spn.at (s:=s) (wn.out.le _ _ (uX.out _ _ wW.out))
   obtain⟨x0,x1,x2,xf⟩:=aT (wn.out.le _ _ A7.out)
   clear hcell
   cases hin:bL s x
   ·have yr:=CM hin
    clear hin
    refine(wpIn_wide (n:=0)).1 ?_
    refine eX [(0,false,2),(1,false,2),(2,true,0),(3,false,11),(4,false,11),(5,false,11),(6,false,11),(7,false,11),(8,false,11),(9,false,11),(10,false,11),(11,true,0),(12,false,999),(13,false,999)] (by kernel_rfl) (by kernel_rfl) ?_
    iterate 2 (refine dR rfl rfl (fun K hK=>?_);go_simp;refine hK _ ?_;clear hK K)
    refine fV rfl ?_
    refine gG rfl (fun K hK=>?_)
    go_simp
    refine⟨trivial,rfl,callsIn_wide.2 ((lQ s x _).mono ?_)⟩
    rintro e4 w4 ⟨rfl,hk4⟩
    have hk4':Kept (fun _=>False) W3 w4:=((Kept.refl _ _).drew).trans hk4 (fun _ h=>h.elim)
    have A8:=CM (wn.out.kept HO.out hk4')
    have Cg:=CM (HJ.out _ _ _ yG.out hk4')
    rw [yr.out]
    clear hk4 hk4' s0 s1 s2 s3 s4 s5 s6 s7 s8 s9 s10 x0 x1 x2 xf
    refine hK _ _ ?_
    clear hK K
    refine wpListIn_nil ?_
    refine And.intro ?_ ?_
    ·go_simp
    refine dR rfl rfl (fun K hK=>?_);go_simp;refine hK _ ?_;clear hK K
    iterate 7 (first|(refine gY rfl rfl ?_;simp only [Act.put,CO,CP,CQ,CR,CT,CU])|(refine fM rfl rfl (fun K hK=>?_);go_simp;refine hK _ ?_;clear hK K))
    refine fV rfl ?_
    refine na rfl ?_
    simp only [Act.put,CO,CP,CQ]
    refine wpListIn_nil ?_
    refine And.intro ?_ ?_
    ·go_simp
    first|(refine gY rfl rfl ?_;simp only [Act.put,CO,CP,CQ,CR,CT,CU])|(refine fM rfl rfl (fun K hK=>?_);go_simp;refine hK _ ?_;clear hK K)
    refine dR rfl rfl (fun K hK=>?_);go_simp;refine hK _ ?_;clear hK K
    refine kP ?_
    go_wp2_with fail
    go_roundw
    case rel=>exact⟨j+1,by go_num,by omega,by rw [vG.out,yr.out];simpa using Cg.out,A8.out.less uX.out⟩
    case measure=>simp [intOf];omega
   ·have yr:=CM hin
    clear hin
    refine(wpIn_wide (n:=0)).1 ?_
    refine eX [(0,false,2),(1,false,2),(2,true,0),(3,false,11),(4,false,11),(5,false,11),(6,false,11),(7,false,11),(8,false,11),(9,false,11),(10,false,11),(11,true,0),(12,false,999),(13,false,999)] (by kernel_rfl) (by kernel_rfl) ?_
    iterate 2 (refine dR rfl rfl (fun K hK=>?_);go_simp;refine hK _ ?_;clear hK K)
    refine fV rfl ?_
    refine gG rfl (fun K hK=>?_)
    go_simp
    refine⟨trivial,rfl,callsIn_wide.2 ((lQ s x _).mono ?_)⟩
    rintro e4 w4 ⟨rfl,hk4⟩
    have hk4':Kept (fun _=>False) W3 w4:=((Kept.refl _ _).drew).trans hk4 (fun _ h=>h.elim)
    have hI4:=wn.out.kept HO.out hk4'
    have hJ4:=HJ.out _ _ _ yG.out hk4'
    have hlen:V (pre++m.tell s j ++ [(x,v)]):=by
     have e:=vG.out
     rw [yr.out,if_pos rfl]at e
     refine yu.out _ ?_
     rw [List.append_assoc,←e]
     refine(List.prefix_append_right_inj pre).2 ?_
     unfold NodeM.tell
     have h1:((m.keys.zip m.vals).take (j+1)) <+: ((m.keys.zip m.vals).take N0):=List.take_prefix_take_left (by omega)
     exact h1.filter _
    obtain⟨fn,tm,asg,bd,hy,hR⟩:=HY.out 0 _ (x,v) w4 hJ4 hlen
    dsimp only at hy hR
    clear s0 s1 s2 s3 s4 s5 s6 s7 s8 s9 s10 x0 x1 x2 xf
    obtain⟨s0,s1,s2,s3,s4,s5,s6,s7,s8,s9,s10⟩:=Spn.at (s:=s) (hI4.le _ _ (uX.out _ _ wW.out))
    obtain⟨x0,x1,x2,xf⟩:=aT (hI4.le _ _ A7.out)
    obtain⟨m0,m1,m2,m3,mf⟩:=fI (hI4.le _ _ (uX.out _ _ wj.out))
    have hvc:=zY.out _ hI4
    have A8:=CM hI4
    have HR:=CM hR
    rw [yr.out]
    clear hk4 hk4' hI4 hJ4 hlen hR
    refine hK _ _ ?_
    clear hK K
    refine wpListIn_nil ?_
    refine And.intro ?_ ?_
    ·go_simp
    refine dR rfl rfl (fun K hK=>?_);go_simp;refine hK _ ?_;clear hK K
    iterate 7 (first|(refine gY rfl rfl ?_;simp only [Act.put,CO,CP,CQ,CR,CT,CU])|(refine fM rfl rfl (fun K hK=>?_);go_simp;refine hK _ ?_;clear hK K))
    refine fV rfl ?_
    refine gG rfl (fun K hK=>?_)
    go_simp
    refine⟨rfl,HR.out.mono ?_⟩
    intro e5 w5 h5
    obtain⟨bb,rfl,hyes,hno⟩:∃bb,e5 = .returned (.bool bb)∧(bb=true→J (pre++m.tell s j ++ [(x,v)]) w5∧KpO Ow w4 w5)∧(bb=false→Jx (pre++m.tell s j ++ [(x,v)]) w5):=by
     rcases h5 with ⟨rfl,a,b⟩|⟨rfl,a⟩
     ·exact⟨true,rfl,fun _=>⟨a,b⟩,fun h=>(by cases h)⟩
     ·exact⟨false,rfl,fun h=>(by cases h),fun _=>a⟩
    have yw:=CM hyes
    have wb:=CM hno
    clear hyes hno h5 hy HR s0 s1 s2 s3 s4 s5 s6 s7 s8 s9 s10 x0 x1 x2 xf m0 m1 m2 m3 mf hvc
    refine hK _ _ ?_
    clear hK K
    refine wpListIn_nil ?_
    refine And.intro ?_ ?_
    ·go_simp
    first|(refine gY rfl rfl ?_;simp only [Act.put,CO,CP,CQ,CR,CT,CU])|(refine fM rfl rfl (fun K hK=>?_);go_simp;refine hK _ ?_;clear hK K)
    refine dR rfl rfl (fun K hK=>?_);go_simp;refine hK _ ?_;clear hK K
    refine kP ?_
    cases bb
    ·go_wp2_with fail
     go_ret
     refine .inr ⟨rfl,m.tell s j ++ [(x,v)],?_,by rw [←List.append_assoc];exact wb.out (by trivial)⟩
     have e:=vG.out
     rw [yr.out,if_pos rfl]at e
     rw [←e,wL.out]
     unfold NodeM.tell
     have h1:((m.keys.zip m.vals).take (j+1)) <+: ((m.keys.zip m.vals).take N0):=List.take_prefix_take_left (by omega)
     exact h1.filter _
    ·go_wp2_with fail
     go_roundw
     case rel=>exact⟨j+1,by go_num,by omega,by rw [vG.out,yr.out,if_pos rfl,←List.append_assoc];exact(yw.out (by trivial)).1,(A8.out.kp (yw.out (by trivial)).2).less uX.out⟩
     case measure=>simp [intOf];omega
  ·obtain rfl:j=N0:=by omega
   have zZ:=CM hj
   have Aa:=CM hit
   clear hj hit
   go_wp2_with (fail)
   go_ret
   exact .inl ⟨rfl,by rw [wL.out];exact zZ.out,Aa.out.less uQ.out⟩
end Go.Proofs.YtdobimafhbfkhaaGreat
