/- Joined texts: A table's rows of which a predicate holds (Oracle.hold). Rows are read by a predicate (txn.pick). Rows are changed by a predicate (txn.change). Rows are taken out by a predicate (txn.clear). A cursor moves on (txn.fetch). -/
import Derived.Test.YtdobimafhbfkhaaGreatOB36
set_option maxHeartbeats 64000000
namespace Go.Proofs.YtdobimafhbfkhaaGreat
open Go.ChangeShapes Go.WideShapes Go.ChangeAt Go.RowKit
set_option maxRecDepth 100000
set_option linter.unusedSimpArgs false
attribute [local go_sem] Oper.semAt_some
theorem tw (m:ar)(p:PredT)(s:Spn):cL m p s=(m.filter (fun r=>bG s (aG r))).filter p.holds:=by
 unfold cL
 rw [List.filter_filter]
 exact List.filter_congr (fun r _=>by rw [Bool.and_comm])
structure HoldI (wa:World)(bo:Nat)(R:ar)(p:PredT)(pre:PL)(W:World):Prop where
 box:∃es:List RowE,es.map RowE.row=(R.take pre.length).filter p.holds∧BoxRows wa bo es W
 len:pre.length≤R.length
section
variable {wa W W' : World} {bo k : Nat} {R : ar} {p : PredT} {pre : PL}
theorem HoldI.grown {row:Option Nat}(h:HoldI wa bo R p pre W)(hg:W.grownBy W' row)(hr:∀r,row=some r→wa.heap.size≤r∧∃o:Obj,W.heap[r]?=some o∧o.isCells=false):HoldI wa bo R p pre W':=by
 obtain⟨⟨es,h1,h2⟩,h3⟩:=h
 exact⟨⟨es,h1,h2.grown hg hr⟩,h3⟩
theorem HoldI.ownFrom (hk:wa.heap.size≤k):OwnFrom k (HoldI wa bo R p):=fun _ _ _ _ h hg hr=>h.grown hg (fun r e=>⟨Nat.le_trans hk (hr r e).1,(hr r e).2⟩)
end
theorem RowsL.fit {D:PH}{L:PL}{l:ar}(h:RowsL D L l):∀r∈l,bD r:=by
 induction h with
 | nil=>intro r hr;cases hr
 | cons hk hr _ ih =>
  intro r hr2
  rcases List.mem_cons.1 hr2 with rfl|hr2
  ·exact hr.2
  ·exact ih r hr2
theorem rC {R:ar}{p:PredT}{j:Nat}{r:List Val}(h:R[j]?=some r):(R.take (j+1)).filter p.holds=(R.take j).filter p.holds++(if p.holds r then [r]else []):=by
 rw [List.take_add_one,h,List.filter_append]
 cases hp:p.holds r<;>simp [hp]
theorem mX {B w:World}{D:PH}{o i:Nat}{O:OrM}{l:List HP}{m:ar}{pe:PredE}(sp:Spn)(hm:O.tabs[i]?=some m)(hrl:∀r∈m,r.length≤1000000)(hp:PredsAt D (.slice pe.la pe.ln pe.lc) pe.subs)(h:Sat B D w (orP D o O::l)) :
  Calls Tryz.prog 43 #[.pointer (some ⟨o,0,none⟩),.int .i64 i,.agg pe.cells.toArray,sp.v] w fun e w'=>∃(a:Option Addr) (n cc:Nat) (D':PH),e = .returned (.slice a n cc)∧PH.le D D'∧RowsF D' (.slice a n cc) (cL m pe.p sp)∧Sat B D' w' (orP D' o O::l):=by
 obtain⟨wa,hwa,hka,hbp,hbs⟩:=bi w pe.cells.toArray sp.cells tPr tS
 have hA:=h.kept hka
 obtain⟨y,hy,hsA⟩:=fV hA
 obtain⟨t,g,og,pc,ht,hpv,hpcA⟩:=gp hy hm hsA
 obtain⟨-,d1A⟩:=dp hsA
 rw [hpv]at d1A
 obtain⟨⟨T,L⟩,hT,hsT⟩:=Sat.open_ex (iN hm ht hsA)
 have xM:=B5 (iC hsT)
 have HT:=B5 hT
 have ub:=B5 hA.pool
 have HA:=B5 hA
 obtain⟨W1,hW1⟩:∃W1,W1=wa.alloc (.cells #[.slice none 0 0] tRs):=⟨_,rfl⟩
 have hs0:Sat wa (aH wa) W1 [blk wa.heap.size #[.slice none 0 0] tRs]:=by rw [hW1];exact(Sat.start wa).alloc _ _
 have hk1:Kept (fun _=>False) wa W1:=by rw [hW1];exact(Kept.refl _ _).alloc _
 have hpc:=hk1.cell' hpcA (fun h=>h)
 have d1:=hk1.cell' d1A (fun h=>h)
 have hlt:(i:Int)<(O.tabs.length:Int):=by have:=(List.getElem?_eq_some_iff.1 hm).1;omega
 generalize O.tabs.length=TN at *
 obtain⟨s0,s1,s2,s3,s4,s5,s6,s7,s8,s9,s10⟩:=Spn.at (s:=sp) ((hk1.block _ (ax hbs) (fun h=>h)).trans hbs)
 have BM:=B5 hbp
 have tO:=B5 hs0
 have tK:=B5 hk1
 have zY:=B5 hp
 have xK:=B5 hrl
 have HW:=B5 hwa
 have tE:=B5 hW1
 have uK:=B5 (show wa.heap.size=w.heap.size+1+1 by rw [hwa,World.size_alloc,World.size_alloc])
 have D1A:=B5 d1
 clear h hka hbp hbs hA hy hsA hsT hT d1A hpcA hs0 hk1 hwa hW1 hp hrl hm ht hpv
 dsimp only [Spn.v]
 refine(callsIn_wide (n:=6)).1 (callsIn_of_wp_marks Tryz.func43 rfl trivial ?_ rfl)
 simp only [Tryz.ntmps43,List.size_toArray,List.length_cons,List.length_nil,Nat.reduceAdd,Nat.reduceSub,Array.replicate_succ,Array.replicate_zero,List.push_toArray,List.append_toArray,List.nil_append,List.cons_append]
 refine wpIn_wide.2 ?_
 go_upto_region 2 with fail
 have hw2:=HW.out
 dsimp only [Spn.cells]at hw2
 rw [←hw2,←uK.out,←tE.out]
 clear hw2
 generalize hbo:wa.heap.size=bo at tO uK ⊢
 have BN:=B5 hbo
 generalize w.heap.size+1=bs at *
 generalize w.heap.size=bp at *
 clear hbo HW tE
 refine af [(0,false,8),(1,false,8),(2,false,8),(3,false,8),(4,false,8),(5,false,8),(6,false,8),(7,false,8),(8,true,0)] (by kernel_rfl) (by kernel_rfl) ?_
 iterate 8 (refine ae rfl rfl (fun K hK=>?_);go_simp;refine hK _ ?_;clear hK K)
 refine ah rfl ?_
 refine aq rfl (fun K hK=>?_)
 go_simp
 refine(rH (some ⟨t,0,none⟩) sp W1.drew).mono ?_
 rintro e2 w3 ⟨r1,r2,rfl,hk2,hr1,hr2,hn1,hn2⟩
 have hk3:Kept (fun _=>False) W1 w3:=((Kept.refl _ W1).drew).trans hk2 (fun _ h=>h.elim)
 have hs3:Sat wa (aH wa) w3 [blk bo #[.slice none 0 0] tRs]:=tO.out.kept hk3
 have hk13:Kept (fun _=>False) wa w3:=tK.out.trans hk3 (fun _ h=>h.elim)
 have hb3:w3.heap[bo]?=some (.cells #[.slice none 0 0] tRs (0,0)):=hs3.blk 0 rfl
 have hblt:=ax hb3
 have hb1:bo<W1.heap.size:=ax (tO.out.blk 0 rfl)
 have hbr:BoxRow w3 bo tRs tW 1 (.slice none 0 0) 0 []:=⟨hb3,Own.nil _ _ _,fun h=>by cases h⟩
 have hnot:∀k,OwB bo w3 k→k=bo:=fun k hk=>(hbr.ow hk).elim (fun h=>h) (fun h=>by cases h)
 obtain⟨E,hE1,hE2⟩:=hbr.iter
 have hsz1:=hk2.size
 have hEa:PH.le (cellsOf (aH wa)) E:=fun k o hk=>by
  obtain⟨cs,ty,fr,rfl⟩:=d7 hk
  have h0:=fC _ _ _ hk
  have hlt:=ax h0
  exact hE1 _ _ _ _ ((hk13.block k hlt (fun h=>h)).trans h0) (fun h=>by have:=hnot _ h;have:=BN.out;omega)
 have e1:=hE1 _ _ _ _ hr1 (fun h=>by have:=hnot _ h;have:W1.drew.heap.size=W1.heap.size:=rfl;omega)
 have e2:=hE1 _ _ _ _ hr2 (fun h=>by have:=hnot _ h;have:W1.drew.heap.size=W1.heap.size:=rfl;omega)
 have wk:=B5 (xM.out.pool hEa)
 have yT:=B5 (HT.out.good.tells sp)
 have wP:=B5 ((HT.out.rows.mono ub.out).span sp)
 have vH:=B5 (show ∀r∈m.filter (fun r=>bG sp (aG r)),r.length≤1000000 from fun r hr=>xK.out r (List.mem_filter.1 hr).1)
 have Bf:=B5 (tw m pe.p sp)
 have xt:=B5 (show(m.filter (fun r=>bG sp (aG r))).length≤200 from Nat.le_trans (List.length_filter_le ..) HT.out.len)
 generalize hR:m.filter (fun r=>bG sp (aG r))=R at wP vH Bf xt
 have BO:=B5 e1
 have yu:=B5 e2
 have BP:=B5 hE2
 have tH:=B5 hs3
 have yx:=B5 hk13
 have yQ:=B5 hblt
 have uy:=B5 hb3
 have BQ:=B5 (zY.out.mono ub.out)
 clear hR hk2 hk3 hs3 hb1 hbr hnot hE1 hE2 hsz1 hEa e1 e2 hr1 hr2 hn1 hn2 hk13 hb3 hblt hpc d1 hlt D1A s0 s1 s2 s3 s4 s5 s6 s7 s8 s9 s10
 refine hK _ _ ?_
 clear hK K
 refine wpList_nil ?_
 refine And.intro ?_ ?_
 ·go_simp
 refine ai ?_
 go_wp2_with fail
 refine(wpIn_wide (n:=5)).1 ?_
 refine ik (n:=5) rfl (by omega) (gf:=84) (lb:=#[.pointer (some ⟨r1,0,none⟩),.pointer (some ⟨r2,0,none⟩)]) rfl trivial (enters_of Tryz.func84 (by kernel_rfl) rfl)
  (rq (T:=T) (s:=sp) (q:=inS sp L) (t:=t) (D:=E) (kX yQ.out) 4 wk.out yT.out BO.out yu.out BP.out)
  (fun h k=>KpO.trans h k) (fun W l o o' hl h hc _=>KpO.put (kX yQ.out) hl h hc) (Below.refl _ _) (fun _=>rfl)
  (HoldI wa bo R pe.p) (fun p W=>HoldI wa bo R pe.p p.1 W∧p.1 ++ [p.2] <+: inS sp L) (fun _ _ _=>False) (HoldI.ownFrom yx.out.size) (fun p X Y row h hg hr=>⟨h.1.grown hg (fun r e=>⟨Nat.le_trans yx.out.size (hr r e).1,(hr r e).2⟩),h.2⟩) (fun _ _ _ _ _ h _ _=>h) ?h0 ?hnew
  (fun (x:Val×VT) (a':Act) (_:World)=>a' = { tmps:=#[.pointer (some ⟨o,0,none⟩),.int .i64 i,.agg pe.cells.toArray,sp.v,undef,undef,.pointer (some ⟨bp,0,none⟩),.pointer (some ⟨bs,0,none⟩),.slice none 0 0,.pointer (some ⟨bo,0,none⟩),undef,x.2.v,.pointer (some ⟨o,0,none⟩),.pointer (some ⟨o,0,none⟩),.pointer (some ⟨o,1,none⟩),.slice (some ⟨g,og,none⟩) TN pc,.int .i64 i,.pointer (some ⟨g,og+i,none⟩),.pointer (some ⟨t,0,none⟩),sp.v,rngV r1 r2,x.1.v,x.2.v,undef,undef,undef,undef,undef,undef,undef,undef,undef],defers:=[] }) (fun _ _ _ _ _ _ h _ _=>h) ?assign ?body ?done ?stop
 case h0 =>
  refine⟨⟨[],rfl,.slice none 0 0,?_⟩,Nat.zero_le _⟩
  have h2:Sat wa (aH wa) w3 (aX []::_):=Sat.togroup (L:=[]) (tH.out.own_nil tW 1)
  exact h2.rot.swap
 case hnew =>
  rintro pre x X Y hi hk hx
  exact⟨hi.grown hk.grown (fun r e=>by cases e),hx⟩
 case assign =>
  rintro l2 pre x X K hi hK
  have hbX:bo<X.heap.size:=by obtain⟨⟨_,_,v,hs⟩,_⟩:=hi.1;exact ax (hs.blk 0 rfl)
  have H:=B5 (hK _ _ (KeepsFrom.refl _ _) (KpO.of_kept (kX (n₀:=bo+1) (by omega)) hbX (Kept.refl _ _)) hi rfl)
  clear hK
  gi_wp2
  exact H.out
 case body =>
  rintro l2 pre x a' X hl2-⟨⟨⟨es,hes,v,hs⟩,hlen⟩,hpx⟩ rfl
  obtain⟨r,hr,-,hrf⟩:∃r,R[pre.length]?=some r∧x.1=aG r∧RowF (aH wa) x.2.v r:=by
   obtain⟨z,hz⟩:=hpx
   exact wP.out.at (show(inS sp L)[pre.length]?=some x by rw [←hz];simp)
  have hbx:X.heap[bp]?=some (.cells pe.cells.toArray tPr (0,0)):=hs.pool bp _ BM.out
  have u4:=B5 (mQ pe.p pe X x.2.v r rfl (BQ.out.rd hs) (RdP.rd hrf.1 hs))
  obtain⟨x0,x1,x2,x3,x4,x5,x6,x7,x8⟩:=be hbx
  have HS:=B5 hs
  have HR:=B5 (rC (p:=pe.p) hr)
  have vR:=B5 hes
  have AK:=B5 hrf
  have uA:=B5 (vH.out r (List.mem_of_getElem? hr))
  have vq:=B5 (List.getElem?_eq_some_iff.1 hr).1
  clear hs hr hes hrf hbx hlen hpx
  gi_wp2_with fail
  refine⟨trivial,CallsIn.inRound l2 (callsIn_wide.2 (u4.out.mono ?_))⟩
  rintro e4 w4 ⟨rfl,hk4⟩
  have uF:=B5 hk4
  have hs4:=HS.out.kept hk4
  obtain⟨o0,of⟩:=av (hs4.blk 0 rfl)
  have tP:=B5 hs4
  clear hk4 hs4 u4 x0 x1 x2 x3 x4 x5 x6 x7 x8
  cases hb:pe.p.holds r
  ·have xB:=B5 (show(R.take (pre.length+1)).filter pe.p.holds=(R.take pre.length).filter pe.p.holds by rw [HR.out,hb];simp)
   clear hb HR
   gi_wp2_with fail
   refine⟨gC uF.out _,KpO.of_kept (kX (n₀:=bo+1) (by omega)) (ax (HS.out.blk 0 rfl)) uF.out,⟨es,?_,v,tP.out⟩,?_⟩
   ·rw [List.length_append,List.length_singleton,xB.out];exact vR.out
   ·rw [List.length_append,List.length_singleton];exact vq.out
  ·have xB:=B5 (show(R.take (pre.length+1)).filter pe.p.holds=(R.take pre.length).filter pe.p.holds ++ [r] by rw [HR.out,hb];simp)
   clear hb HR
   gi_wp2_with fail
   have vW:=B5 (pK (RdP.rd AK.out.1 tP.out.drew) uA.out)
   refine iM [(0,false,4),(1,false,2),(2,true,0),(3,true,0),(4,true,0),(5,true,0)] (by kernel_rfl) (by kernel_rfl) (by kernel_rfl) ?_
   iterate 2 (refine nX rfl rfl (fun K hK=>?_);go_simp;refine hK _ ?_;clear hK K)
   refine fZ rfl ?_
   refine oq rfl (fun K hK=>?_)
   go_simp
   refine⟨trivial,CallsIn.inRound l2 (callsIn_wide.2 (vW.out.mono ?_))⟩
   rintro e5 w5 ⟨v5,rfl,hk5,ho5,hf5⟩
   obtain⟨a5,c5,rfl⟩:∃a5 c5,v5 = .slice a5 r.length c5:=by obtain⟨_,_,h,_⟩:=ho5.rd.2.2;exact⟨_,_,h⟩
   have hs5:Sat wa (aH wa) w5 (blk bo #[v] tRs::aC tW 1 v es.length (es.map RowE.v)::mw ⟨r,a5,r.length,c5⟩ :: [aX (es.map mw)]):=((tP.out.drew.own_new hk5 ho5 hf5).rot)
   have hk45:Kept (fun _=>False) w4 w5:=((Kept.refl _ w4).drew).trans hk5 (fun _ h=>h.elim)
   have hbx:=lQ hs5
   obtain⟨D1,hD1,hsx⟩:=hbx.sat
   clear o0 of
   obtain⟨o0,of⟩:=av hbx.box
   have hal:=hsx.alloc #[.slice a5 r.length c5] tW
   have hrb:=bM (size:=1) (n:=1) hal.heap_blk rfl (by unfold maxLen;omega)
   have tU:=B5 hs5
   have uD:=B5 (uF.out.trans hk45 (fun _ h=>h.elim))
   have uG:=B5 hbx
   have wm:=B5 hD1
   have uz:=B5 hal.rot.swap
   have vx:=B5 hrb
   have ue:=B5 (show es.length<1000 by
    have h1:es.length≤(R.take pre.length).length:=by rw [←List.length_map (f:=RowE.row),vR.out];exact List.length_filter_le ..
    have h2:=xt.out
    rw [List.length_take]at h1
    omega)
   have AM:=B5 (show ∀u∈[Value.slice a5 r.length c5],u.oneCell'=true by intro u hu;simp at hu;subst hu;rfl)
   obtain⟨i0,hinf,hz0,hz1,hz2⟩:=info_parts nU
   have ud:=B5 (And.intro hinf (And.intro hz0 (And.intro hz1 hz2)))
   clear ho5 hf5 hk5 hs5 hk45 hbx hD1 hsx hal hrb vW hinf hz0 hz1 hz2
   have hl5:=ue.out
   refine hK _ _ ?_
   clear hK K
   refine wpListIn_nil ?_
   refine And.intro ?_ ?_
   ·go_simp
   refine fZ rfl ?_
   refine wpListIn_plain rfl (fun K hK=>?_)
   go_simp
   refine hK _ _ ?_
   clear hK K
   refine wpListIn_nil ?_
   clear o0 of
   obtain⟨o0,of⟩:=av (uz.out.blk 1 rfl)
   refine And.intro ?_ ?_
   ·go_simp
   refine fZ rfl ?_
   refine gX _ rfl _ _ tRs rfl tW i0 _ 1 24 Tryz.underlying55 ud.out.1 ud.out.2.1 ud.out.2.2.1 ud.out.2.2.2 rfl _ _ _ rfl uz.out _ 1 _ rfl vx.out AM.out (by unfold maxLen;omega) (by omega) ?_
   intro v2 w6 h2 h2o
   refine wpListIn_nil ?_
   obtain⟨ra,rc,rfl⟩:=h2.own_shape
   clear o0 of
   obtain⟨o0,of⟩:=av (h2.blk 1 rfl)
   have H2:=B5 (h2.swap.set 0 (.slice ra (es.length+1) rc))
   clear h2 hl5
   refine And.intro ?_ ?_
   ·go_simp
   refine fZ rfl ?_
   refine wpListIn_plain rfl (fun K hK=>?_)
   go_simp
   refine hK _ _ ?_
   clear hK K
   refine wpListIn_nil ?_
   refine And.intro ?_ ?_
   ·go_simp
   refine pu ?_
   gi_wp2_with fail
   have h3:=H2.out
   have hst:=pP tU.out wm.out h3
   obtain⟨_,hkp,hko,_,_⟩:=uG.out.back wm.out h3
   refine⟨(gC uD.out _).trans (hko.from _),(KpO.of_kept (kX (n₀:=bo+1) (by omega)) (ax (HS.out.blk 0 rfl)) uD.out).trans hkp,⟨es ++ [⟨r,a5,r.length,c5⟩],?_,.slice ra (es.length+1) rc,?_⟩,?_⟩
   ·rw [List.map_append,List.length_append,List.length_singleton,xB.out,vR.out];rfl
   ·have q1:=hst.front 3 rfl
    simp only [List.eraseIdx_cons_succ,List.eraseIdx_cons_zero]at q1
    have q2:=q1.ungroup
    have q3:=q2.perm ((((List.Perm.swap _ _ _).cons _).trans (List.Perm.swap _ _ _)).append_left (es.map mw))
    have e3:∀(L:List HP) (a b c:HP),L ++ [a,b,c]=(L ++ [a]) ++ [b,c]:=fun L a b c=>by simp
    rw [e3]at q3
    have q5:=q3.togroup.rot
    rw [List.length_append,List.length_singleton,List.map_append,List.map_append]
    exact q5
   ·rw [List.length_append,List.length_singleton];exact vq.out
 case done =>
  rintro D2 xs W hD rfl ⟨⟨es,hes,hbr⟩,-⟩ hK
  have hbr2:=hbr.grown (grownBy_putObj' W D2 (.deferred none)) (fun r e=>by cases e;exact⟨Nat.le_trans yx.out.size hD,_,hK,rfl⟩)
  obtain⟨v,hs⟩:=hbr
  obtain⟨v',hs'⟩:=hbr2
  obtain⟨o0,of⟩:=av (hs.blk 0 rfl)
  have hvv:v'=v:=by
   have h1:=hs'.blk 0 rfl
   rw [World.putObj_heap_other (show bo≠D2 by have:=yQ.out;omega),hs.blk 0 rfl]at h1
   cases h1
   rfl
  subst hvv
  have hall:es.map RowE.row=cL m pe.p sp:=by
   rw [hes,Bf.out,wP.out.len,List.take_length]
  have hfit:∀x∈es,bD x.row:=fun x hx=>by
   have h1:x.row∈es.map RowE.row:=List.mem_map_of_mem hx
   rw [hes]at h1
   exact wP.out.fit _ (List.mem_of_mem_take (List.mem_filter.1 h1).1)
  obtain⟨D3,hle,hrows,hs3⟩:=sK hfit (HA.out.over hs'.drop)
  have HF:=B5 (And.intro hle (And.intro (hall▸hrows) (iR hle hs3)))
  obtain⟨va,vn,vc,rfl⟩:∃a n c,v' = .slice a n c:=by obtain⟨_,_,_,h,_⟩:=hrows.1;obtain⟨_,_,ao,c,h2,_⟩:=h;exact⟨ao,_,c,h2⟩
  clear hs hs' hle hrows hs3 hes hall hfit
  go_wp2_with fail
  refine⟨by simp,.inl ⟨_,_,rfl,run_takeDeferred hK,?_⟩⟩
  exact⟨_,results_tmp rfl _ _ _,va,vn,vc,D3,rfl,HF.out.1,HF.out.2.1,HF.out.2.2⟩
 case stop =>
  rintro D c pre W _ _ h _
  exact h.elim
theorem iz {D:PH}{a:Option Addr}{n c:Nat}{rs:List (List Val)}(h:RowsF D (.slice a n c) rs):n=rs.length:=by
 obtain⟨⟨_,_,_,h,_⟩,_⟩:=h
 obtain⟨_,_,ao,c,h2,_⟩:=h
 cases h2
 rfl
theorem mJ {B w:World}{D:PH}{x o i:Nat}{X:TxM}{l:List HP}{m:ar}{pe:PredE}(sp:Spn)(hm:X.tabs[i]?=some m)(hrl:∀r∈m,r.length≤1000000)(hp:PredsAt D (.slice pe.la pe.ln pe.lc) pe.subs)(h:TxIn B w D x o X l) :
  Calls Tryz.prog 43 #[.pointer (some ⟨o,0,none⟩),.int .i64 i,.agg pe.cells.toArray,sp.v] w fun e w'=>∃(a:Option Addr) (cc:Nat) (D':PH),e = .returned (.slice a (cL m pe.p sp).length cc)∧PH.le D D'∧RowsF D' (.slice a (cL m pe.p sp).length cc) (cL m pe.p sp)∧TxIn B w' D' x o X l:=by
 obtain⟨H,hH,hs⟩:=h
 refine(mX sp (O:=⟨X.cols,X.tabs⟩) hm hrl hp (gY hs)).mono ?_
 rintro e w' ⟨a,n,cc,D',rfl,hle,hr,hs2⟩
 have hn:=iz hr
 subst hn
 exact⟨a,cc,D',rfl,hle,hr,H,hH.mono hle,fF hs2⟩
theorem cX {X:TxM}{i:Nat}{m:ar}(hm:X.tabs[i]?=some m)(p:PredT)(s:Spn):X.hold (i:Int) p s=cL m p s:=by unfold TxM.hold;rw [gb hm]
def TxM.pick (X:TxM)(s:StmM):TxM×AnsM:=(X,⟨0,X.hold s.table s.pred bZ,(X.hold s.table s.pred bZ).length⟩)
theorem qH {B w:World}{D:PH}{x o i:Nat}{X:TxM}{l:List HP}{m:ar}{e:StmE}{s:StmM}(hs:StmOk D e s)(hi:s.table=(i:Int))(hm:X.tabs[i]?=some m)(hrl:∀r∈m,r.length≤1000000)(h:TxIn B w D x o X l) :
  Calls Tryz.prog 74 #[.pointer (some ⟨x,0,none⟩),.agg e.cells.toArray] w (dV B D x o l (X.pick s)):=by
 have wn:=B5 (show X.pick s=(X,⟨0,cL m e.pe.p bZ,(cL m e.pe.p bZ).length⟩) by unfold TxM.pick;rw [hi,cX hm,hs.pred])
 obtain⟨W0,hW0,h2⟩:=dL h e.cells.toArray aZ tSt bq
 have ul:=B5 hW0
 have u4:=B5 (mJ (pe:=e.pe) bZ hm hrl hs.subs (h2.kept (Kept.refl (fun _=>False) W0).drew))
 obtain⟨t,g,og,pc,c0,d1,hpc,-⟩:=ed h2 hm
 have tO:=B5 h2
 have u9:=B5 (show e.table=(i:Int)from hs.table.trans hi)
 clear h hs hi hm hrl hW0 h2 d1 hpc
 go_enter Tryz.func74,Tryz.ntmps74
 go_upto_region 1 with fail
 rw [←ul.out]
 clear ul
 generalize w.heap.size+1=ba at tO u4 ⊢
 generalize w.heap.size=bs at tO u4 ⊢
 obtain⟨x0,x2,x3,x4,x5,x6,x7,x17,x18,x19⟩:=bQ (tO.out.sat.blk 1 rfl)
 rw [u9.out]at x2
 obtain⟨z0,z1,z2,z3,z4,z5,z6,z7,z8⟩:=dh (tO.out.sat.blk 1 rfl)
 refine af [(0,false,9),(1,false,9),(2,false,9),(3,false,9),(4,false,9),(5,false,9),(6,false,9),(7,false,9),(8,false,9),(9,true,0),(10,false,999)] (by kernel_rfl) (by kernel_rfl) ?_
 iterate 9 (refine ae rfl rfl (fun K hK=>?_);go_simp;refine hK _ ?_;clear hK K)
 refine ah rfl ?_
 refine aq rfl (fun K hK=>?_)
 go_simp
 refine u4.out.mono ?_
 rintro e1 w1 ⟨ra,rc,D2,rfl,hle,hrw,hs1⟩
 have tD:=B5 hs1
 have ub:=B5 hle
 have uH:=B5 hrw
 clear hle hrw hs1 tO u4 c0 x0 x2 x3 x4 x5 x6 x7 x17 x18 x19 z0 z1 z2 z3 z4 z5 z6 z7 z8
 obtain⟨rs,hrs⟩:∃rs,cL m e.pe.p bZ=rs:=⟨_,rfl⟩
 rw [hrs]at uH wn ⊢
 clear hrs
 generalize hN:rs.length=N at *
 refine hK _ _ ?_
 clear hK K
 refine wpList_nil ?_
 refine And.intro ?_ ?_
 ·go_simp
 refine ae rfl rfl (fun K hK=>?_);go_simp;refine hK _ ?_;clear hK K
 refine ai ?_
 go_wp2_with (refine ay rfl _ _ _ rfl bq ba rfl [.int .i64 0,.slice ra N rc,.int .i64 N] rfl aZ tD.out (by kernel_rfl) rfl (by intro u hu;simp at hu;rcases hu with rfl|rfl|rfl<;>rfl) ?_;intro w6 hs6;have tJ:=B5 hs6;clear hs6 tD)
 refine bodyPost_ret (aR rfl _ _ rfl (bE rfl (aA (tJ.out.sat.blk 0 rfl)))) rfl ?_
 rw [wn.out]
 exact⟨ra,N,rc,D2,rfl,ub.out,uH.out,tJ.out.drop.drop⟩
def TxM.change (X:TxM)(s:StmM):TxM×AnsM:=X.all s.table (X.hold s.table s.pred bZ) s.sets
theorem ec {m:ar}{p:PredT}{s:Spn}{r:List Val}(h:r∈cL m p s):r∈m:=(List.mem_filter.1 h).1
theorem lV {c:List Bool}{m:ar}(hI:TabI c m){p:PredT}{s:Spn}:∀r∈cL m p s,bw c r=true∧(aU m (aG r)).isSome=true:=fun r hr=>⟨hI.fits r (ec hr),ee.2 ⟨r,ec hr,rfl⟩⟩
theorem iD {m:ar}{p:PredT}{s:Spn}{n:Nat}(h:m.length≤n):(cL m p s).length≤n:=Nat.le_trans (List.length_filter_le ..) h
theorem nG {B w:World}{D:PH}{x o i:Nat}{X:TxM}{l:List HP}{m:ar}{c:List Bool}{e:StmE}{s:StmM}(hs:StmOk D e s)(hi:s.table=(i:Int))(hm:X.tabs[i]?=some m)(hc:X.cols[i]?=some c)(hI:TabI c m)(hml:m.length≤200)(hrl:∀r∈m,r.length≤1000000)(hb:X.log.length+200≤10000)(h:TxIn B w D x o X l) :
  Calls Tryz.prog 75 #[.pointer (some ⟨x,0,none⟩),.agg e.cells.toArray] w (dV B D x o l (X.change s)):=by
 have wn:=B5 (show X.change s=X.all i (cL m e.pe.p bZ) s.sets by unfold TxM.change;rw [hi,cX hm,hs.pred])
 obtain⟨W0,hW0,h2⟩:=dL h e.cells.toArray aZ tSt bq
 have ul:=B5 hW0
 have u4:=B5 (mJ (pe:=e.pe) bZ hm hrl hs.subs (h2.kept (Kept.refl (fun _=>False) W0).drew))
 obtain⟨t,g,og,pc,c0,d1,hpc,-⟩:=ed h2 hm
 have tO:=B5 h2
 have u9:=B5 (show e.table=(i:Int)from hs.table.trans hi)
 have vC:=B5 hs.sets
 have HM:=B5 hm
 have HC:=B5 hc
 have vB:=B5 hI
 have xu:=B5 hml
 have HB:=B5 hb
 have xY:=B5 (lV (p:=e.pe.p) (s:=bZ) hI)
 have vh:=B5 (iD (p:=e.pe.p) (s:=bZ) hml)
 obtain⟨sa,sn,sc,hsv⟩:∃a n c,e.sets.v = .slice a n c:=⟨_,_,_,rfl⟩
 have vt:=B5 hsv
 rw [hsv]at vC
 clear h hs hi hm hrl hW0 h2 d1 hpc hc hI hml hb hsv
 go_enter Tryz.func75,Tryz.ntmps75
 go_upto_region 1 with fail
 rw [←ul.out]
 clear ul
 generalize w.heap.size+1=ba at tO u4 ⊢
 generalize w.heap.size=bs at tO u4 ⊢
 obtain⟨x0,x2,x3,x4,x5,x6,x7,x17,x18,x19⟩:=bQ (tO.out.sat.blk 1 rfl)
 rw [u9.out]at x2
 rw [vt.out]at x7
 obtain⟨z0,z1,z2,z3,z4,z5,z6,z7,z8⟩:=dh (tO.out.sat.blk 1 rfl)
 refine af [(0,false,15),(1,false,15),(2,false,15),(3,false,12),(4,false,12),(5,false,12),(6,false,12),(7,false,12),(8,false,12),(9,false,12),(10,false,12),(11,false,12),(13,false,15),(14,false,15),(12,true,0),(15,true,0),(16,true,0)] (by kernel_rfl) (by kernel_rfl) ?_
 iterate 14 (refine ae rfl rfl (fun K hK=>?_);go_simp;refine hK _ ?_;clear hK K)
 refine ah rfl ?_
 refine aq rfl (fun K hK=>?_)
 go_simp
 refine u4.out.mono ?_
 rintro e1 w1 ⟨ra,rc,D2,rfl,hle,hrw,hs1⟩
 have tD:=B5 hs1
 have ub:=B5 hle
 have uH:=B5 hrw
 clear hle hrw hs1 tO u4 c0 x0 x2 x3 x4 x5 x6 x7 x17 x18 x19 z0 z1 z2 z3 z4 z5 z6 z7 z8
 obtain⟨rs,hrs⟩:∃rs,cL m e.pe.p bZ=rs:=⟨_,rfl⟩
 rw [hrs]at uH wn xY vh ⊢
 clear hrs
 have uz:=B5 (nR HM.out HC.out vB.out xu.out xY.out uH.out (vC.out.mono ub.out) vh.out (by have h1:=HB.out;have h2:=vh.out;omega) tD.out)
 generalize hN:rs.length=N at *
 obtain⟨x0,x2,x3,x4,x5,x6,x7,x17,x18,x19⟩:=bQ (tD.out.sat.blk 1 rfl)
 rw [u9.out]at x2
 rw [vt.out]at x7
 obtain⟨z0,z1,z2,z3,z4,z5,z6,z7,z8⟩:=dh (tD.out.sat.blk 1 rfl)
 obtain⟨t,g,og,pc,c0,d1,hpc,-⟩:=ed tD.out HM.out
 clear d1 hpc
 refine hK _ _ ?_
 clear hK K
 refine wpList_nil ?_
 refine And.intro ?_ ?_
 ·go_simp
 refine ah rfl ?_
 refine aq rfl (fun K hK=>?_)
 go_simp
 refine uz.out.mono ?_
 rintro e2 w2 ⟨qa,qn,qc,D3,rfl,hle3,hrw3,hs3⟩
 have tH:=B5 hs3
 have ur:=B5 (ub.out.trans hle3)
 have xj:=B5 hrw3
 clear hle3 hrw3 hs3 uz tD c0 x0 x2 x3 x4 x5 x6 x7 x17 x18 x19 z0 z1 z2 z3 z4 z5 z6 z7 z8
 obtain⟨x0,x2,x3,x4,x5,x6,x7,x17,x18,x19⟩:=bQ (tH.out.sat.blk 1 rfl)
 rw [u9.out]at x2
 rw [vt.out]at x7
 obtain⟨z0,z1,z2,z3,z4,z5,z6,z7,z8⟩:=dh (tH.out.sat.blk 1 rfl)
 obtain⟨c0,-⟩:=cQ (tH.out.choose_spec.2)
 refine hK _ _ ?_
 clear hK K
 refine wpList_nil ?_
 refine And.intro ?_ ?_
 ·go_simp
 refine ah rfl ?_
 refine ay rfl _ _ _ rfl bq ba rfl [_,.slice qa qn qc,_] rfl aZ tH.out (by kernel_rfl) rfl (by intro u hu;simp at hu;rcases hu with rfl|rfl|rfl<;>rfl) ?_
 intro w6 hs6
 refine wpList_nil ?_
 have tJ:=B5 hs6
 clear hs6 tH c0 x0 x2 x3 x4 x5 x6 x7 x17 x18 x19 z0 z1 z2 z3 z4 z5 z6 z7 z8
 obtain⟨x0,x2,x3,x4,x5,x6,x7,x17,x18,x19⟩:=bQ (tJ.out.sat.blk 1 rfl)
 rw [u9.out]at x2
 rw [vt.out]at x7
 obtain⟨z0,z1,z2,z3,z4,z5,z6,z7,z8⟩:=dh (tJ.out.sat.blk 1 rfl)
 obtain⟨c0,-⟩:=cQ (tJ.out.choose_spec.2)
 refine And.intro ?_ ?_
 ·go_simp
 refine ai ?_
 go_wp2_with fail
 refine bodyPost_ret (aR rfl _ _ rfl (bE rfl (aA (tJ.out.sat.blk 0 rfl)))) rfl ?_
 rw [wn.out]
 exact⟨qa,qn,qc,D3,rfl,ur.out,xj.out,tJ.out.drop.drop⟩
def TxM.clear (X:TxM)(s:StmM):TxM×AnsM:=((X.hold s.table s.pred bZ).foldl (fun y r=>y.out s.table (aG r)) X,i8 (X.hold s.table s.pred bZ).length)
theorem nr {X:TxM}{i:Nat}{m:ar}(hm:X.tabs[i]?=some m):∀(n:Nat) (rs:ar),n≤rs.length→∃m',((rs.take n).foldl (fun y r=>y.out (i:Int) (aG r)) X).tabs[i]?=some m'∧((rs.take n).foldl (fun y r=>y.out (i:Int) (aG r)) X).log.length=X.log.length+n
 | 0,_,_=>⟨m,hm,rfl⟩
 | n+1,rs,hn=>by
  obtain⟨m',h1,h2⟩:=nr hm n rs (by omega)
  obtain⟨r,hr⟩:∃r,rs[n]?=some r:=⟨rs[n]'(by omega),List.getElem?_eq_getElem _⟩
  rw [List.take_add_one,hr]
  simp only [Option.toList_some,List.foldl_append,List.foldl_cons,List.foldl_nil]
  generalize (rs.take n).foldl (fun y r=>y.out (i:Int) (aG r)) X=Y at h1 h2 ⊢
  have hlt:=(List.getElem?_eq_some_iff.1 h1).1
  refine⟨dj m' (aG r),?_,?_⟩
  ·show(Y.tabs.set (i:Int).toNat (dj (Y.tab i) _))[i]?=_
   rw [Int.toNat_natCast,List.getElem?_set_self hlt,dM h1]
  ·show(Y.log ++ [_]).length=_
   rw [List.length_append,h2];rfl
theorem oV {B w:World}{D:PH}{x o i:Nat}{X:TxM}{l:List HP}{m:ar}{c:List Bool}{e:StmE}{s:StmM}(hs:StmOk D e s)(hi:s.table=(i:Int))(hm:X.tabs[i]?=some m)(hI:TabI c m)(hml:m.length≤200)(hrl:∀r∈m,r.length≤1000000)(hb:X.log.length+200≤10000)(h:TxIn B w D x o X l) :
  Calls Tryz.prog 76 #[.pointer (some ⟨x,0,none⟩),.agg e.cells.toArray] w (dV B D x o l (X.clear s)):=by
 have wn:=B5 (show X.clear s=((cL m e.pe.p bZ).foldl (fun y r=>y.out i (aG r)) X,i8 (cL m e.pe.p bZ).length) by unfold TxM.clear;rw [hi,cX hm,hs.pred])
 obtain⟨W0,hW0,h2⟩:=dL h e.cells.toArray aZ tSt bq
 have ul:=B5 hW0
 have u4:=B5 (mJ (pe:=e.pe) bZ hm hrl hs.subs (h2.kept (Kept.refl (fun _=>False) W0).drew))
 obtain⟨t,g,og,pc,c0,d1,hpc,-⟩:=ed h2 hm
 have tO:=B5 h2
 have u9:=B5 (show e.table=(i:Int)from hs.table.trans hi)
 have HM:=B5 hm
 have vB:=B5 hI
 have HB:=B5 hb
 have xY:=B5 (lV (p:=e.pe.p) (s:=bZ) hI)
 have vh:=B5 (iD (p:=e.pe.p) (s:=bZ) hml)
 clear h hs hi hm hrl hW0 h2 d1 hpc hI hml hb
 go_enter Tryz.func76,Tryz.ntmps76
 go_upto_region 1 with fail
 rw [←ul.out]
 clear ul
 generalize w.heap.size+1=ba at tO u4 ⊢
 generalize w.heap.size=bs at tO u4 ⊢
 obtain⟨x0,x2,x3,x4,x5,x6,x7,x17,x18,x19⟩:=bQ (tO.out.sat.blk 1 rfl)
 rw [u9.out]at x2
 obtain⟨z0,z1,z2,z3,z4,z5,z6,z7,z8⟩:=dh (tO.out.sat.blk 1 rfl)
 refine af [(0,false,9),(1,false,9),(2,false,9),(3,false,9),(4,false,9),(5,false,9),(6,false,9),(7,false,9),(8,false,9),(9,true,0),(10,false,999)] (by kernel_rfl) (by kernel_rfl) ?_
 iterate 9 (refine ae rfl rfl (fun K hK=>?_);go_simp;refine hK _ ?_;clear hK K)
 refine ah rfl ?_
 refine aq rfl (fun K hK=>?_)
 go_simp
 refine u4.out.mono ?_
 rintro e1 w1 ⟨ra,rc,D2,rfl,hle,hrw,hs1⟩
 have tD:=B5 hs1
 have ub:=B5 hle
 clear hle hs1 tO u4 c0 x0 x2 x3 x4 x5 x6 x7 x17 x18 x19 z0 z1 z2 z3 z4 z5 z6 z7 z8
 obtain⟨rs,hrs⟩:∃rs,cL m e.pe.p bZ=rs:=⟨_,rfl⟩
 rw [hrs]at hrw wn xY vh ⊢
 clear hrs
 obtain⟨⟨us,hu1,hu2,hu3,hu4⟩,hfit⟩:=hrw
 have HU:=B5 (And.intro hu1 (And.intro hu2 hu4))
 generalize hN:rs.length=N at *
 have HN:=B5 hN
 have xg:=B5 hu3
 have hnb:N≤200:=vh.out
 clear hu1 hu2 hu3 hu4 hfit hN
 refine hK _ _ ?_
 clear hK K
 refine wpList_nil ?_
 refine And.intro ?_ ?_
 ·go_simp
 refine ae rfl rfl (fun K hK=>?_);go_simp;refine hK _ ?_;clear hK K
 refine ai ?_
 go_wp2_with fail
 go_loopw [20] (fun idx wr=>∃(k:Nat),idx = .int .i64 k∧k≤N∧TxIn B wr D2 x o ((rs.take k).foldl (fun y r=>y.out (i:Int) (aG r)) X) (blk ba aZ bq::blk bs e.cells.toArray tSt::l)) (fun idx _=>N-(intOf idx).toNat)
 case atStart=>exact⟨0,rfl,Nat.zero_le _,tD.out⟩
 case round =>
  obtain⟨k,rfl,hk,htx⟩:=hrel
  have uu:=B5 htx
  clear htx tD
  by_cases hlt2:k<N
  ·obtain⟨r,hr⟩:∃r,rs[k]?=some r:=⟨rs[k]'(by rw [HN.out];exact hlt2),List.getElem?_eq_getElem _⟩
   obtain⟨u,hu⟩:∃u,us[k]?=some u:=⟨us[k]'(by rw [HU.out.1];exact hlt2),List.getElem?_eq_getElem _⟩
   obtain⟨m',hp1,hp2⟩:=nr HM.out k rs (by rw [HN.out];exact hk)
   obtain⟨k0,h0,hk0,hk1,-⟩:=dU (xY.out r (List.mem_of_getElem? hr)).1
   have zF:=B5 (oL (k:=k0) hp1 hk1 (by rw [hp2];have:=HB.out;omega) (uu.out.kept (Kept.refl (fun _=>False) _).drew))
   have vb:=B5 (show(rs.take (k+1)).foldl (fun y r=>y.out (i:Int) (aG r)) X=((rs.take k).foldl (fun y r=>y.out (i:Int) (aG r)) X).out (i:Int) k0 by rw [List.take_add_one,hr,←hk0];simp)
   have hrd:=RdP.rd (HU.out.2.2 k u r hu hr) uu.out.sat
   obtain⟨ao,rcc,rfl⟩:∃ao rc,u = .slice ao r.length rc:=by obtain⟨_,_,ao,rc,h,_⟩:=hrd;exact⟨ao,rc,h⟩
   obtain⟨rg,rog,rfl⟩:=eC hrd h0 rfl
   obtain⟨y0,y1,y2⟩:=aN (h:=0) hrd h0
   rw [Nat.zero_mul,Nat.add_zero]at y0 y1 y2
   have hlen2:0<r.length:=(List.getElem?_eq_some_iff.1 h0).1
   have hlen:(0:Int)<(r.length:Int):=by omega
   obtain⟨fg,fo,rfl,hcu⟩:∃fg fo,ra=some ⟨fg,fo,none⟩∧wr.cell? ⟨fg,fo+k,none⟩=some (.slice (some ⟨rg,rog,none⟩) r.length rcc):=by
    obtain⟨_,_,ao,cap,hv,_,_,_,hcell⟩:=xg.out.rd uu.out.sat
    cases hv
    rcases hcell with h0|⟨g,og,hg,hcc⟩
    ·omega
    ·exact⟨g,og,hg,hcc k _ hu⟩
   have hki:(k:Int)<(N:Int):=by omega
   obtain⟨x0,x2,x3,x4,x5,x6,x7,x17,x18,x19⟩:=bQ (uu.out.sat.blk 1 rfl)
   rw [u9.out]at x2
   generalize r.length=RN at *
   clear hu hr hp1 hp2 h0 hk0 hk1 hrd
   go_upto_region 5 with fail
   refine af [(0,false,6),(1,false,6),(2,false,6),(3,false,6),(4,false,6),(5,false,6),(6,true,0)] (by kernel_rfl) (by kernel_rfl) ?_
   iterate 6 (refine ae rfl rfl (fun K hK=>?_);go_simp;refine hK _ ?_;clear hK K)
   refine ah rfl ?_
   refine aq rfl (fun K hK=>?_)
   go_simp
   refine zF.out.mono ?_
   rintro e2 w2 ⟨rfl,htx5⟩
   have ut:=B5 htx5
   clear htx5 zF uu hcu y0 y1 y2 x0 x2 x3 x4 x5 x6 x7 x17 x18 x19
   refine hK _ _ ?_
   clear hK K
   refine wpList_nil ?_
   refine And.intro ?_ ?_
   ·go_simp
   refine ai ?_
   go_wp2_with fail
   go_roundw
   case rel=>exact⟨k+1,by go_num,by omega,by rw [vb.out];exact ut.out⟩
   case measure=>simp [intOf];omega
  ·obtain rfl:k=N:=by omega
   have hki:¬((k:Int)<(k:Int)):=by omega
   have vb:=B5 (show TxIn B _ D2 x o (rs.foldl (fun y r=>y.out (i:Int) (aG r)) X) (blk ba aZ bq::blk bs e.cells.toArray tSt::l)from List.take_of_length_le (Nat.le_of_eq HN.out)▸uu.out)
   clear uu
   go_wp2_with (refine ay rfl _ _ _ rfl bq ba rfl [.int .i64 0,.slice none 0 0,.int .i64 (k:Int)] rfl aZ vb.out (by kernel_rfl) rfl (by intro u hu;simp at hu;rcases hu with rfl|rfl|rfl<;>rfl) ?_;intro w6 hs6;have tJ:=B5 hs6;clear hs6 vb)
   refine bodyPost_ret (aR rfl _ _ rfl (bE rfl (aA (tJ.out.sat.blk 0 rfl)))) rfl ?_
   rw [wn.out]
   exact⟨none,0,0,D2,rfl,ub.out,RowsF.nil _,tJ.out.drop.drop⟩
theorem lay_in {c R vs:List Value}{k:Nat}(h:k+vs.length≤c.length):lay (c++R) k vs=lay c k vs++R:=by
 unfold lay
 rw [List.take_append_of_le_length (by omega),List.drop_append_of_le_length (by omega),List.append_assoc,List.append_assoc,List.append_assoc]
theorem iE (o:Nat)(lv:Value){sv:List Int}{cs:List CurE}(hs:sv.length=4){n k:Nat}{c c':CurE}(hn:cs[n]?=some c){vs:List Value}(hk:k+vs.length≤27)(hc:lay c.cells k vs=c'.cells) :
  lay (aO o lv sv cs).toList (6+n*27+k) vs=(aO o lv sv (cs.set n c')).toList:=by
 have hlt:=(List.getElem?_eq_some_iff.1 hn).1
 have e:∀cs:List CurE,(aO o lv sv cs).toList=((.pointer (some ⟨o,0,none⟩)::lv::sv.map (Value.int .i64))++cs.flatMap CurE.cells):=fun cs=>rfl
 have hcs:cs=cs.take n++c::cs.drop (n+1):=by
  rw [←(List.getElem?_eq_some_iff.1 hn).2]
  simp
 rw [e,e,show 6+n*27+k=(Value.pointer (some ⟨o,0,none⟩)::lv::sv.map (Value.int .i64)).length+(n*27+k) by simp [hs];omega,ms,List.set_eq_take_append_cons_drop,if_pos hlt]
 congr 1
 have hl:((cs.take n).flatMap CurE.cells).length=n*27:=by rw [cj CurE.len,List.length_take];congr 1;omega
 conv=>lhs;rw [hcs]
 rw [List.flatMap_append,List.flatMap_append,List.flatMap_cons,List.flatMap_cons,←hl,ms,lay_in (by rw [CurE.len];exact hk),hc]
theorem lay_one (L:List Value)(j:Nat)(v:Value)(h:j<L.length):lay L j [v]=L.set j v:=by
 unfold lay
 rw [List.set_eq_take_append_cons_drop,if_pos h]
 simp
theorem sD {w:World}{x off:Nat}{c:CurE}(h:∀j v,c.cells[j]?=some v→w.cell? ⟨x,off+j,none⟩=some v) :
    w.cell? ⟨x,off,none⟩=some (.bool c.opn)∧w.cell? ⟨x,off+2,none⟩=some (.bool c.stands)∧w.cell? ⟨x,off+3,none⟩=some (.int .i64 c.table) ∧
    (w.cell? ⟨x,off+4,none⟩=some (.int .i64 c.pe.op)∧w.cell? ⟨x,off+5,none⟩=some (.int .i64 c.pe.col)∧w.cell? ⟨x,off+6,none⟩=some (.bool c.pe.v.t)∧w.cell? ⟨x,off+7,none⟩=some (.int .i64 c.pe.v.n)∧w.cell? ⟨x,off+8,none⟩=some (.string c.pe.v.s) ∧
      w.cell? ⟨x,off+9,none⟩=some (.bool c.pe.w.t)∧w.cell? ⟨x,off+10,none⟩=some (.int .i64 c.pe.w.n)∧w.cell? ⟨x,off+11,none⟩=some (.string c.pe.w.s)∧w.cell? ⟨x,off+12,none⟩=some (.slice c.pe.la c.pe.ln c.pe.lc)) ∧
    (w.cell? ⟨x,off+13,none⟩=some (.bool c.frm.no)∧w.cell? ⟨x,off+14,none⟩=some (.bool c.frm.hasLo)∧w.cell? ⟨x,off+15,none⟩=some (.bool c.frm.openLo)∧w.cell? ⟨x,off+16,none⟩=some (.bool c.frm.lo.t)∧w.cell? ⟨x,off+17,none⟩=some (.int .i64 c.frm.lo.n)∧w.cell? ⟨x,off+18,none⟩=some (.string c.frm.lo.s) ∧
      w.cell? ⟨x,off+19,none⟩=some (.bool c.frm.hasHi)∧w.cell? ⟨x,off+20,none⟩=some (.bool c.frm.openHi)∧w.cell? ⟨x,off+21,none⟩=some (.bool c.frm.hi.t)∧w.cell? ⟨x,off+22,none⟩=some (.int .i64 c.frm.hi.n)∧w.cell? ⟨x,off+23,none⟩=some (.string c.frm.hi.s)) ∧
    (w.cell? ⟨x,off+24,none⟩=some (.bool c.key.t)∧w.cell? ⟨x,off+25,none⟩=some (.int .i64 c.key.n)∧w.cell? ⟨x,off+26,none⟩=some (.string c.key.s)) :=
  ⟨h 0 _ rfl,h 2 _ rfl,h 3 _ rfl,⟨h 4 _ rfl,h 5 _ rfl,h 6 _ rfl,h 7 _ rfl,h 8 _ rfl,h 9 _ rfl,h 10 _ rfl,h 11 _ rfl,h 12 _ rfl⟩,
   ⟨h 13 _ rfl,h 14 _ rfl,h 15 _ rfl,h 16 _ rfl,h 17 _ rfl,h 18 _ rfl,h 19 _ rfl,h 20 _ rfl,h 21 _ rfl,h 22 _ rfl,h 23 _ rfl⟩,h 24 _ rfl,h 25 _ rfl,h 26 _ rfl⟩
section
variable {B w : World} {D D' : PH} {x o n k : Nat} {X : TxM} {H : TxH} {l : List HP} {c c' : CurE}
theorem mP (h:Sat B D' w (txL D x o X H++l))(hsv:X.saves.length=4)(hn:H.cs[n]?=some c):(∀j v,c.cells[j]?=some v→w.cell? ⟨x,6+n*27+j,none⟩=some v)∧∀j,w.frozen? ⟨x,j,none⟩=false:=by
 have hb:=h.blk 0 rfl
 refine⟨fun j v hj=>?_,fun j=>by simp [World.frozen?,hb]⟩
 simp only [World.cell?,hb]
 rw [Nat.add_assoc]
 exact gG o H.lv hsv hn hj
theorem jv (o:Nat)(lv:Value){sv:List Int}(cs:List CurE)(hs:sv.length=4):(aO o lv sv cs).toList.length=6+cs.length*27:=by
 show((.pointer (some ⟨o,0,none⟩)::lv::(sv.map (Value.int .i64)++cs.flatMap CurE.cells)):List Value).length=_
 rw [List.length_cons,List.length_cons,List.length_append,List.length_map,hs,cj CurE.len]
 omega
theorem qi (h:Sat B D' w (txL D x o X H++l))(hsv:X.saves.length=4)(hn:H.cs[n]?=some c)(hk:k+1≤27)(v:Value)(hc:lay c.cells k [v]=c'.cells) :
  Sat B D' (w.setCell ⟨x,6+n*27+k,none⟩ v) (txL D x o X ⟨H.lv,H.es,H.cs.set n c'⟩++l):=by
 have hlt:=(List.getElem?_eq_some_iff.1 hn).1
 have h1:=iE o H.lv hsv hn (vs:=[v]) hk hc
 have h2:6+n*27+k<(aO o H.lv X.saves H.cs).toList.length:=by rw [jv o H.lv H.cs hsv];omega
 rw [lay_one _ _ _ h2]at h1
 have h3:(aO o H.lv X.saves H.cs).setIfInBounds (6+n*27+k) v=aO o H.lv X.saves (H.cs.set n c'):=by
  rw [←Array.toList_inj,Array.toList_setIfInBounds];exact h1
 show Sat B D' _ (blk x (aO o H.lv X.saves (H.cs.set n c')) tTx::_)
 rw [←h3]
 exact Sat.set h _ v
theorem eY {P:Program}{ops:Array Oper}{rest:List Oper}{oo:Oper}{a:Act}{Q:Exit→Act→World→Prop}(hgd:oo.guard=none)(ty:TypeId)(xo yo:Operand)(ho:oo.op = .store ty xo yo)(off:Nat)(hx:a.eval xo = .pointer (some ⟨x,off,none⟩))(hoff:off=6+n*27+k)(vs:List Value)(hy:a.eval yo = .agg vs.toArray)
  (hs:Sat B D' w (txL D x o X H++l)) (hsv:X.saves.length=4) (hn:H.cs[n]?=some c) (hk:k+vs.length≤27) (hc:lay c.cells k vs=c'.cells) (h1:∀u∈vs,u.oneCell'=true) (hi:(P.info? ty).map (·.size)=some vs.length)
  (h:∀w',Sat B D' w' (txL D x o X ⟨H.lv,H.es,H.cs.set n c'⟩++l)→wpList P ops Q rest (a.put oo.dst undef) w'):wpList P ops Q (oo::rest) a w:=by
 subst hoff
 have hlt:=(List.getElem?_eq_some_iff.1 hn).1
 refine dJ hgd ty xo yo ho tTx x _ hx vs hy (aO o H.lv X.saves H.cs).toList (by rw [Array.toArray_toList];exact hs) hi (by rw [jv o H.lv H.cs hsv];omega) h1 (fun w' hs'=>h w' ?_)
 rw [iE o H.lv hsv hn hk hc,Array.toArray_toList]at hs'
 exact hs'
end
end Go.Proofs.YtdobimafhbfkhaaGreat
