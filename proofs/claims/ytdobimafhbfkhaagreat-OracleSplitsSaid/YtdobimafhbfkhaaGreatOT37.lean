/- Joined texts: A table's rows of which a predicate holds (Oracle.hold). Rows are read by a predicate (txn.pick). Rows are changed by a predicate (txn.change). Rows are taken out by a predicate (txn.clear). A cursor moves on (txn.fetch). -/
import Derived.Test.YtdobimafhbfkhaaGreatOT36
set_option maxHeartbeats 64000000
namespace Go.Proofs.YtdobimafhbfkhaaGreat
open Go.ChangeShapes Go.WideShapes Go.ChangeAt Go.RowKit
set_option maxRecDepth 100000
set_option linter.unusedSimpArgs false
attribute [local go_sem] Oper.semAt_some
theorem tZ (m:ay)(p:PredT)(s:Spn):cS m p s=(m.filter (fun r=>bL s (aJ r))).filter p.holds:=by
 unfold cS
 rw [List.filter_filter]
 exact List.filter_congr (fun r _=>by rw [Bool.and_comm])
structure HoldI (wa:World)(bo:Nat)(R:ay)(p:PredT)(pre:PL)(W:World):Prop where
 box:∃es:List RowE,es.map RowE.row=(R.take pre.length).filter p.holds∧BoxRows wa bo es W
 len:pre.length≤R.length
section
variable {wa W W' : World} {bo k : Nat} {R : ay} {p : PredT} {pre : PL}
theorem HoldI.grown {row:Option Nat}(h:HoldI wa bo R p pre W)(hg:W.grownBy W' row)(hr:∀r,row=some r→wa.heap.size≤r∧∃o:Obj,W.heap[r]?=some o∧o.isCells=false):HoldI wa bo R p pre W':=by
 obtain⟨⟨es,h1,h2⟩,h3⟩:=h
 exact⟨⟨es,h1,h2.grown hg hr⟩,h3⟩
theorem HoldI.ownFrom (hk:wa.heap.size≤k):OwnFrom k (HoldI wa bo R p):=fun _ _ _ _ h hg hr=>h.grown hg (fun r e=>⟨Nat.le_trans hk (hr r e).1,(hr r e).2⟩)
end
theorem RowsL.fit {D:PH}{L:PL}{l:ay}(h:RowsL D L l):∀r∈l,bR r:=by
 induction h with
 | nil=>intro r hr;cases hr
 | cons hk hr _ ih =>
  intro r hr2
  rcases List.mem_cons.1 hr2 with rfl|hr2
  ·exact hr.2
  ·exact ih r hr2
theorem rh {R:ay}{p:PredT}{j:Nat}{r:List Val}(h:R[j]?=some r):(R.take (j+1)).filter p.holds=(R.take j).filter p.holds++(if p.holds r then [r]else []):=by
 rw [List.take_add_one,h,List.filter_append]
 cases hp:p.holds r<;>simp [hp]
theorem m9 {B w:World}{D:PH}{o i:Nat}{O:OrM}{l:List HP}{m:ay}{pe:PredE}(sp:Spn)(hm:O.tabs[i]?=some m)(hrl:∀r∈m,r.length≤1000000)(hp:PredsAt D (.slice pe.la pe.ln pe.lc) pe.subs)(h:Sat B D w (orP D o O::l)) :
  Calls Tryz.prog 43 #[.pointer (some ⟨o,0,none⟩),.int .i64 i,.agg pe.cells.toArray,sp.v] w fun e w'=>∃(a:Option Addr) (n cc:Nat) (D':PH),e = .returned (.slice a n cc)∧PH.le D D'∧RowsF D' (.slice a n cc) (cS m pe.p sp)∧Sat B D' w' (orP D' o O::l):=by
 obtain⟨wa,hwa,hka,hbp,hbs⟩:=bC w pe.cells.toArray sp.cells tPr tS
 have hA:=h.kept hka
 obtain⟨y,hy,hsA⟩:=fS hA
 obtain⟨t,g,og,pc,ht,hpv,hpcA⟩:=gI hy hm hsA
 obtain⟨-,d1A⟩:=dy hsA
 rw [hpv]at d1A
 obtain⟨⟨T,L⟩,hT,hsT⟩:=Sat.open_ex (i7 hm ht hsA)
 have xx:=CM (iY hsT)
 have HT:=CM hT
 have uF:=CM hA.pool
 have HA:=CM hA
 obtain⟨W1,hW1⟩:∃W1,W1=wa.alloc (.cells #[.slice none 0 0] tRs):=⟨_,rfl⟩
 have hs0:Sat wa (aD wa) W1 [blk wa.heap.size #[.slice none 0 0] tRs]:=by rw [hW1];exact(Sat.start wa).alloc _ _
 have hk1:Kept (fun _=>False) wa W1:=by rw [hW1];exact(Kept.refl _ _).alloc _
 have hpc:=hk1.cell' hpcA (fun h=>h)
 have d1:=hk1.cell' d1A (fun h=>h)
 have hlt:(i:Int)<(O.tabs.length:Int):=by have:=(List.getElem?_eq_some_iff.1 hm).1;omega
 generalize O.tabs.length=TN at *
 obtain⟨s0,s1,s2,s3,s4,s5,s6,s7,s8,s9,s10⟩:=Spn.at (s:=sp) ((hk1.block _ (ax hbs) (fun h=>h)).trans hbs)
 have Ct:=CM hbp
 have uv:=CM hs0
 have uq:=CM hk1
 have AN:=CM hp
 have yA:=CM hrl
 have HW:=CM hwa
 have ul:=CM hW1
 have uH:=CM (show wa.heap.size=w.heap.size+1+1 by rw [hwa,World.size_alloc,World.size_alloc])
 have D1A:=CM d1
 clear h hka hbp hbs hA hy hsA hsT hT d1A hpcA hs0 hk1 hwa hW1 hp hrl hm ht hpv
 dsimp only [Spn.v]
 refine(callsIn_wide (n:=6)).1 (callsIn_of_wp_marks Tryz.func43 rfl trivial ?_ rfl)
 simp only [Tryz.ntmps43,List.size_toArray,List.length_cons,List.length_nil,Nat.reduceAdd,Nat.reduceSub,Array.replicate_succ,Array.replicate_zero,List.push_toArray,List.append_toArray,List.nil_append,List.cons_append]
 refine wpIn_wide.2 ?_
 go_upto_region 2 with fail
 have hw2:=HW.out
 dsimp only [Spn.cells]at hw2
 rw [←hw2,←uH.out,←ul.out]
 clear hw2
 generalize hbo:wa.heap.size=bo at uv uH ⊢
 have Cu:=CM hbo
 generalize w.heap.size+1=bs at *
 generalize w.heap.size=bp at *
 clear hbo HW ul
 refine af [(0,false,8),(1,false,8),(2,false,8),(3,false,8),(4,false,8),(5,false,8),(6,false,8),(7,false,8),(8,true,0)] (by kernel_rfl) (by kernel_rfl) ?_
 iterate 8 (refine ae rfl rfl (fun K hK=>?_);go_simp;refine hK _ ?_;clear hK K)
 refine ag rfl ?_
 refine au rfl (fun K hK=>?_)
 go_simp
 refine(sR (some ⟨t,0,none⟩) sp W1.drew).mono ?_
 rintro e2 w3 ⟨r1,r2,rfl,hk2,hr1,hr2,hn1,hn2⟩
 have hk3:Kept (fun _=>False) W1 w3:=((Kept.refl _ W1).drew).trans hk2 (fun _ h=>h.elim)
 have hs3:Sat wa (aD wa) w3 [blk bo #[.slice none 0 0] tRs]:=uv.out.kept hk3
 have hk13:Kept (fun _=>False) wa w3:=uq.out.trans hk3 (fun _ h=>h.elim)
 have hb3:w3.heap[bo]?=some (.cells #[.slice none 0 0] tRs (0,0)):=hs3.blk 0 rfl
 have hblt:=ax hb3
 have hb1:bo<W1.heap.size:=ax (uv.out.blk 0 rfl)
 have hbr:BoxRow w3 bo tRs tW 1 (.slice none 0 0) 0 []:=⟨hb3,Own.nil _ _ _,fun h=>by cases h⟩
 have hnot:∀k,OwB bo w3 k→k=bo:=fun k hk=>(hbr.ow hk).elim (fun h=>h) (fun h=>by cases h)
 obtain⟨E,hE1,hE2⟩:=hbr.iter
 have hsz1:=hk2.size
 have hEa:PH.le (cellsOf (aD wa)) E:=fun k o hk=>by
  obtain⟨cs,ty,fr,rfl⟩:=ed hk
  have h0:=fO _ _ _ hk
  have hlt:=ax h0
  exact hE1 _ _ _ _ ((hk13.block k hlt (fun h=>h)).trans h0) (fun h=>by have:=hnot _ h;have:=Cu.out;omega)
 have e1:=hE1 _ _ _ _ hr1 (fun h=>by have:=hnot _ h;have:W1.drew.heap.size=W1.heap.size:=rfl;omega)
 have e2:=hE1 _ _ _ _ hr2 (fun h=>by have:=hnot _ h;have:W1.drew.heap.size=W1.heap.size:=rfl;omega)
 have xe:=CM (xx.out.pool hEa)
 have zL:=CM (HT.out.good.tells sp)
 have xG:=CM ((HT.out.rows.mono uF.out).span sp)
 have wC:=CM (show ∀r∈m.filter (fun r=>bL sp (aJ r)),r.length≤1000000 from fun r hr=>yA.out r (List.mem_filter.1 hr).1)
 have BY:=CM (tZ m pe.p sp)
 have yp:=CM (show(m.filter (fun r=>bL sp (aJ r))).length≤200 from Nat.le_trans (List.length_filter_le ..) HT.out.len)
 generalize hR:m.filter (fun r=>bL sp (aJ r))=R at xG wC BY yp
 have At:=CM e1
 have xZ:=CM e2
 have Cv:=CM hE2
 have ut:=CM hs3
 have zq:=CM hk13
 have zJ:=CM hblt
 have HB3:=CM hb3
 have Cw:=CM (AN.out.mono uF.out)
 clear hR hk2 hk3 hs3 hb1 hbr hnot hE1 hE2 hsz1 hEa e1 e2 hr1 hr2 hn1 hn2 hk13 hb3 hblt hpc d1 hlt D1A s0 s1 s2 s3 s4 s5 s6 s7 s8 s9 s10
 refine hK _ _ ?_
 clear hK K
 refine wpList_nil ?_
 refine And.intro ?_ ?_
 ·go_simp
 refine ah ?_
 go_wp2_with fail
 refine(wpIn_wide (n:=5)).1 ?_
 refine iD (n:=5) rfl (by omega) (gf:=84) (lb:=#[.pointer (some ⟨r1,0,none⟩),.pointer (some ⟨r2,0,none⟩)]) rfl trivial (enters_of Tryz.func84 (by kernel_rfl) rfl)
  (qS (T:=T) (s:=sp) (q:=inS sp L) (t:=t) (D:=E) (ku zJ.out) 4 xe.out zL.out At.out xZ.out Cv.out)
  (fun h k=>KpO.trans h k) (fun W l o o' hl h hc _=>KpO.put (ku zJ.out) hl h hc) (Below.refl _ _) (fun _=>rfl)
  (HoldI wa bo R pe.p) (fun p W=>HoldI wa bo R pe.p p.1 W∧p.1 ++ [p.2] <+: inS sp L) (fun _ _ _=>False) (HoldI.ownFrom zq.out.size) (fun p X Y row h hg hr=>⟨h.1.grown hg (fun r e=>⟨Nat.le_trans zq.out.size (hr r e).1,(hr r e).2⟩),h.2⟩) (fun _ _ _ _ _ h _ _=>h) ?h0 ?hnew
  (fun (x:Val×VT) (a':Act) (_:World)=>a' = { tmps:=#[.pointer (some ⟨o,0,none⟩),.int .i64 i,.agg pe.cells.toArray,sp.v,undef,undef,.pointer (some ⟨bp,0,none⟩),.pointer (some ⟨bs,0,none⟩),.slice none 0 0,.pointer (some ⟨bo,0,none⟩),undef,x.2.v,.pointer (some ⟨o,0,none⟩),.pointer (some ⟨o,0,none⟩),.pointer (some ⟨o,1,none⟩),.slice (some ⟨g,og,none⟩) TN pc,.int .i64 i,.pointer (some ⟨g,og+i,none⟩),.pointer (some ⟨t,0,none⟩),sp.v,rngV r1 r2,x.1.v,x.2.v,undef,undef,undef,undef,undef,undef,undef,undef,undef],defers:=[] }) (fun _ _ _ _ _ _ h _ _=>h) ?assign ?body ?done ?stop
 case h0 =>
  refine⟨⟨[],rfl,.slice none 0 0,?_⟩,Nat.zero_le _⟩
  have h2:Sat wa (aD wa) w3 (be []::_):=Sat.togroup (L:=[]) (ut.out.own_nil tW 1)
  exact h2.rot.swap
 case hnew =>
  rintro pre x X Y hi hk hx
  exact⟨hi.grown hk.grown (fun r e=>by cases e),hx⟩
 case assign =>
  rintro l2 pre x X K hi hK
  have hbX:bo<X.heap.size:=by obtain⟨⟨_,_,v,hs⟩,_⟩:=hi.1;exact ax (hs.blk 0 rfl)
  have H:=CM (hK _ _ (KeepsFrom.refl _ _) (KpO.of_kept (ku (n₀:=bo+1) (by omega)) hbX (Kept.refl _ _)) hi rfl)
  clear hK
  gi_wp2
  exact H.out
 case body =>
  rintro l2 pre x a' X hl2-⟨⟨⟨es,hes,v,hs⟩,hlen⟩,hpx⟩ rfl
  obtain⟨r,hr,-,hrf⟩:∃r,R[pre.length]?=some r∧x.1=aJ r∧RowF (aD wa) x.2.v r:=by
   obtain⟨z,hz⟩:=hpx
   exact xG.out.at (show(inS sp L)[pre.length]?=some x by rw [←hz];simp)
  have hbx:X.heap[bp]?=some (.cells pe.cells.toArray tPr (0,0)):=hs.pool bp _ Ct.out
  have vL:=CM (m8 pe.p pe X x.2.v r rfl (Cw.out.rd hs) (RdP.rd hrf.1 hs))
  obtain⟨x0,x1,x2,x3,x4,x5,x6,x7,x8⟩:=bh hbx
  have HS:=CM hs
  have HR:=CM (rh (p:=pe.p) hr)
  have wP:=CM hes
  have Bv:=CM hrf
  have HXL:=CM (wC.out r (List.mem_of_getElem? hr))
  have vW:=CM (List.getElem?_eq_some_iff.1 hr).1
  clear hs hr hes hrf hbx hlen hpx
  gi_wp2_with fail
  refine⟨trivial,CallsIn.inRound l2 (callsIn_wide.2 (vL.out.mono ?_))⟩
  rintro e4 w4 ⟨rfl,hk4⟩
  have HK4:=CM hk4
  have hs4:=HS.out.kept hk4
  obtain⟨o0,of⟩:=aq (hs4.blk 0 rfl)
  have uy:=CM hs4
  clear hk4 hs4 vL x0 x1 x2 x3 x4 x5 x6 x7 x8
  cases hb:pe.p.holds r
  ·have yh:=CM (show(R.take (pre.length+1)).filter pe.p.holds=(R.take pre.length).filter pe.p.holds by rw [HR.out,hb];simp)
   clear hb HR
   gi_wp2_with fail
   refine⟨gM HK4.out _,KpO.of_kept (ku (n₀:=bo+1) (by omega)) (ax (HS.out.blk 0 rfl)) HK4.out,⟨es,?_,v,uy.out⟩,?_⟩
   ·rw [List.length_append,List.length_singleton,yh.out];exact wP.out
   ·rw [List.length_append,List.length_singleton];exact vW.out
  ·have yh:=CM (show(R.take (pre.length+1)).filter pe.p.holds=(R.take pre.length).filter pe.p.holds ++ [r] by rw [HR.out,hb];simp)
   clear hb HR
   gi_wp2_with fail
   have wT:=CM (pz (RdP.rd Bv.out.1 uy.out.drew) HXL.out)
   refine iG [(0,false,4),(1,false,2),(2,true,0),(3,true,0),(4,true,0),(5,true,0)] (by kernel_rfl) (by kernel_rfl) (by kernel_rfl) ?_
   iterate 2 (refine nH rfl rfl (fun K hK=>?_);go_simp;refine hK _ ?_;clear hK K)
   refine ga rfl ?_
   refine nW rfl (fun K hK=>?_)
   go_simp
   refine⟨trivial,CallsIn.inRound l2 (callsIn_wide.2 (wT.out.mono ?_))⟩
   rintro e5 w5 ⟨v5,rfl,hk5,ho5,hf5⟩
   obtain⟨a5,c5,rfl⟩:∃a5 c5,v5 = .slice a5 r.length c5:=by obtain⟨_,_,h,_⟩:=ho5.rd.2.2;exact⟨_,_,h⟩
   have hs5:Sat wa (aD wa) w5 (blk bo #[v] tRs::aF tW 1 v es.length (es.map RowE.v)::mS ⟨r,a5,r.length,c5⟩ :: [be (es.map mS)]):=((uy.out.drew.own_new hk5 ho5 hf5).rot)
   have hk45:Kept (fun _=>False) w4 w5:=((Kept.refl _ w4).drew).trans hk5 (fun _ h=>h.elim)
   have hbx:=mr hs5
   obtain⟨D1,hD1,hsx⟩:=hbx.sat
   clear o0 of
   obtain⟨o0,of⟩:=aq hbx.box
   have hal:=hsx.alloc #[.slice a5 r.length c5] tW
   have hrb:=cd (size:=1) (n:=1) hal.heap_blk rfl (by unfold maxLen;omega)
   have uA:=CM hs5
   have uG:=CM (HK4.out.trans hk45 (fun _ h=>h.elim))
   have vf:=CM hbx
   have xh:=CM hD1
   have vd:=CM hal.rot.swap
   have wo:=CM hrb
   have uQ:=CM (show es.length<1000 by
    have h1:es.length≤(R.take pre.length).length:=by rw [←List.length_map (f:=RowE.row),wP.out];exact List.length_filter_le ..
    have h2:=yp.out
    rw [List.length_take]at h1
    omega)
   have Bw:=CM (show ∀u∈[Value.slice a5 r.length c5],u.oneCell'=true by intro u hu;simp at hu;subst hu;rfl)
   obtain⟨i0,hinf,hz0,hz1,hz2⟩:=info_parts nG
   have uW:=CM (And.intro hinf (And.intro hz0 (And.intro hz1 hz2)))
   clear ho5 hf5 hk5 hs5 hk45 hbx hD1 hsx hal hrb wT hinf hz0 hz1 hz2
   have hl5:=uQ.out
   refine hK _ _ ?_
   clear hK K
   refine wpListIn_nil ?_
   refine And.intro ?_ ?_
   ·go_simp
   refine ga rfl ?_
   refine wpListIn_plain rfl (fun K hK=>?_)
   go_simp
   refine hK _ _ ?_
   clear hK K
   refine wpListIn_nil ?_
   clear o0 of
   obtain⟨o0,of⟩:=aq (vd.out.blk 1 rfl)
   refine And.intro ?_ ?_
   ·go_simp
   refine ga rfl ?_
   refine hZ _ rfl _ _ tRs rfl tW i0 _ 1 24 Tryz.underlying55 uW.out.1 uW.out.2.1 uW.out.2.2.1 uW.out.2.2.2 rfl _ _ _ rfl vd.out _ 1 _ rfl wo.out Bw.out (by unfold maxLen;omega) (by omega) ?_
   intro v2 w6 h2 h2o
   refine wpListIn_nil ?_
   obtain⟨ra,rc,rfl⟩:=h2.own_shape
   clear o0 of
   obtain⟨o0,of⟩:=aq (h2.blk 1 rfl)
   have H2:=CM (h2.swap.set 0 (.slice ra (es.length+1) rc))
   clear h2 hl5
   refine And.intro ?_ ?_
   ·go_simp
   refine ga rfl ?_
   refine wpListIn_plain rfl (fun K hK=>?_)
   go_simp
   refine hK _ _ ?_
   clear hK K
   refine wpListIn_nil ?_
   refine And.intro ?_ ?_
   ·go_simp
   refine pC ?_
   gi_wp2_with fail
   have h3:=H2.out
   have hst:=pt uA.out xh.out h3
   obtain⟨_,hkp,hko,_,_⟩:=vf.out.back xh.out h3
   refine⟨(gM uG.out _).trans (hko.from _),(KpO.of_kept (ku (n₀:=bo+1) (by omega)) (ax (HS.out.blk 0 rfl)) uG.out).trans hkp,⟨es ++ [⟨r,a5,r.length,c5⟩],?_,.slice ra (es.length+1) rc,?_⟩,?_⟩
   ·rw [List.map_append,List.length_append,List.length_singleton,yh.out,wP.out];rfl
   ·have q1:=hst.front 3 rfl
    simp only [List.eraseIdx_cons_succ,List.eraseIdx_cons_zero]at q1
    have q2:=q1.ungroup
    have q3:=q2.perm ((((List.Perm.swap _ _ _).cons _).trans (List.Perm.swap _ _ _)).append_left (es.map mS))
    have e3:∀(L:List HP) (a b c:HP),L ++ [a,b,c]=(L ++ [a]) ++ [b,c]:=fun L a b c=>by simp
    rw [e3]at q3
    have q5:=q3.togroup.rot
    rw [List.length_append,List.length_singleton,List.map_append,List.map_append]
    exact q5
   ·rw [List.length_append,List.length_singleton];exact vW.out
 case done =>
  rintro D2 xs W hD rfl ⟨⟨es,hes,hbr⟩,-⟩ hK
  have hbr2:=hbr.grown (grownBy_putObj' W D2 (.deferred none)) (fun r e=>by cases e;exact⟨Nat.le_trans zq.out.size hD,_,hK,rfl⟩)
  obtain⟨v,hs⟩:=hbr
  obtain⟨v',hs'⟩:=hbr2
  obtain⟨o0,of⟩:=aq (hs.blk 0 rfl)
  have hvv:v'=v:=by
   have h1:=hs'.blk 0 rfl
   rw [World.putObj_heap_other (show bo≠D2 by have:=zJ.out;omega),hs.blk 0 rfl]at h1
   cases h1
   rfl
  subst hvv
  have hall:es.map RowE.row=cS m pe.p sp:=by
   rw [hes,BY.out,xG.out.len,List.take_length]
  have hfit:∀x∈es,bR x.row:=fun x hx=>by
   have h1:x.row∈es.map RowE.row:=List.mem_map_of_mem hx
   rw [hes]at h1
   exact xG.out.fit _ (List.mem_of_mem_take (List.mem_filter.1 h1).1)
  obtain⟨D3,hle,hrows,hs3⟩:=th hfit (HA.out.over hs'.drop)
  have HF:=CM (And.intro hle (And.intro (hall▸hrows) (gT hle hs3)))
  obtain⟨va,vn,vc,rfl⟩:∃a n c,v' = .slice a n c:=by obtain⟨_,_,_,h,_⟩:=hrows.1;obtain⟨_,_,ao,c,h2,_⟩:=h;exact⟨ao,_,c,h2⟩
  clear hs hs' hle hrows hs3 hes hall hfit
  go_wp2_with fail
  refine⟨by simp,.inl ⟨_,_,rfl,run_takeDeferred hK,?_⟩⟩
  exact⟨_,results_tmp rfl _ _ _,va,vn,vc,D3,rfl,HF.out.1,HF.out.2.1,HF.out.2.2⟩
 case stop =>
  rintro D c pre W _ _ h _
  exact h.elim
theorem i4 {D:PH}{a:Option Addr}{n c:Nat}{rs:List (List Val)}(h:RowsF D (.slice a n c) rs):n=rs.length:=by
 obtain⟨⟨_,_,_,h,_⟩,_⟩:=h
 obtain⟨_,_,ao,c,h2,_⟩:=h
 cases h2
 rfl
theorem ny {B w:World}{D:PH}{x o i:Nat}{X:TxM}{l:List HP}{m:ay}{pe:PredE}(sp:Spn)(hm:X.tabs[i]?=some m)(hrl:∀r∈m,r.length≤1000000)(hp:PredsAt D (.slice pe.la pe.ln pe.lc) pe.subs)(h:TxIn B w D x o X l) :
  Calls Tryz.prog 43 #[.pointer (some ⟨o,0,none⟩),.int .i64 i,.agg pe.cells.toArray,sp.v] w fun e w'=>∃(a:Option Addr) (cc:Nat) (D':PH),e = .returned (.slice a (cS m pe.p sp).length cc)∧PH.le D D'∧RowsF D' (.slice a (cS m pe.p sp).length cc) (cS m pe.p sp)∧TxIn B w' D' x o X l:=by
 obtain⟨H,hH,hs⟩:=h
 refine(m9 sp (O:=⟨X.cols,X.tabs⟩) hm hrl hp (ik hs)).mono ?_
 rintro e w' ⟨a,n,cc,D',rfl,hle,hr,hs2⟩
 have hn:=i4 hr
 subst hn
 exact⟨a,cc,D',rfl,hle,hr,H,hH.mono hle,fR hs2⟩
theorem dP {X:TxM}{i:Nat}{m:ay}(hm:X.tabs[i]?=some m)(p:PredT)(s:Spn):X.hold (i:Int) p s=cS m p s:=by unfold TxM.hold;rw [fQ hm]
def TxM.pick (X:TxM)(s:StmM):TxM×AnsM:=(X,⟨0,X.hold s.table s.pred cq,(X.hold s.table s.pred cq).length⟩)
theorem rL {B w:World}{D:PH}{x o i:Nat}{X:TxM}{l:List HP}{m:ay}{e:StmE}{s:StmM}(hs:StmOk D e s)(hi:s.table=(i:Int))(hm:X.tabs[i]?=some m)(hrl:∀r∈m,r.length≤1000000)(h:TxIn B w D x o X l) :
  Calls Tryz.prog 74 #[.pointer (some ⟨x,0,none⟩),.agg e.cells.toArray] w (d4 B D x o l (X.pick s)):=by
 have xi:=CM (show X.pick s=(X,⟨0,cS m e.pe.p cq,(cS m e.pe.p cq).length⟩) by unfold TxM.pick;rw [hi,dP hm,hs.pred])
 obtain⟨W0,hW0,h2⟩:=dN h e.cells.toArray aZ tSt bl
 have uI:=CM hW0
 have vL:=CM (ny (pe:=e.pe) cq hm hrl hs.subs (h2.kept (Kept.refl (fun _=>False) W0).drew))
 obtain⟨t,g,og,pc,c0,d1,hpc,-⟩:=ei h2 hm
 have uv:=CM h2
 have vK:=CM (show e.table=(i:Int)from hs.table.trans hi)
 clear h hs hi hm hrl hW0 h2 d1 hpc
 go_enter Tryz.func74,Tryz.ntmps74
 go_upto_region 1 with fail
 rw [←uI.out]
 clear uI
 generalize w.heap.size+1=ba at uv vL ⊢
 generalize w.heap.size=bs at uv vL ⊢
 obtain⟨x0,x2,x3,x4,x5,x6,x7,x17,x18,x19⟩:=bj (uv.out.sat.blk 1 rfl)
 rw [vK.out]at x2
 obtain⟨z0,z1,z2,z3,z4,z5,z6,z7,z8⟩:=bX (uv.out.sat.blk 1 rfl)
 refine af [(0,false,9),(1,false,9),(2,false,9),(3,false,9),(4,false,9),(5,false,9),(6,false,9),(7,false,9),(8,false,9),(9,true,0),(10,false,999)] (by kernel_rfl) (by kernel_rfl) ?_
 iterate 9 (refine ae rfl rfl (fun K hK=>?_);go_simp;refine hK _ ?_;clear hK K)
 refine ag rfl ?_
 refine au rfl (fun K hK=>?_)
 go_simp
 refine vL.out.mono ?_
 rintro e1 w1 ⟨ra,rc,D2,rfl,hle,hrw,hs1⟩
 have uk:=CM hs1
 have uF:=CM hle
 have vm:=CM hrw
 clear hle hrw hs1 uv vL c0 x0 x2 x3 x4 x5 x6 x7 x17 x18 x19 z0 z1 z2 z3 z4 z5 z6 z7 z8
 obtain⟨rs,hrs⟩:∃rs,cS m e.pe.p cq=rs:=⟨_,rfl⟩
 rw [hrs]at vm xi ⊢
 clear hrs
 generalize hN:rs.length=N at *
 refine hK _ _ ?_
 clear hK K
 refine wpList_nil ?_
 refine And.intro ?_ ?_
 ·go_simp
 refine ae rfl rfl (fun K hK=>?_);go_simp;refine hK _ ?_;clear hK K
 refine ah ?_
 go_wp2_with (refine az rfl _ _ _ rfl bl ba rfl [.int .i64 0,.slice ra N rc,.int .i64 N] rfl aZ uk.out (by kernel_rfl) rfl (by intro u hu;simp at hu;rcases hu with rfl|rfl|rfl<;>rfl) ?_;intro w6 hs6;have uu:=CM hs6;clear hs6 uk)
 refine bodyPost_ret (aR rfl _ _ rfl (bF rfl (aA (uu.out.sat.blk 0 rfl)))) rfl ?_
 rw [xi.out]
 exact⟨ra,N,rc,D2,rfl,uF.out,vm.out,uu.out.drop.drop⟩
def TxM.change (X:TxM)(s:StmM):TxM×AnsM:=X.all s.table (X.hold s.table s.pred cq) s.sets
theorem fq {m:ay}{p:PredT}{s:Spn}{r:List Val}(h:r∈cS m p s):r∈m:=(List.mem_filter.1 h).1
theorem mq {c:List Bool}{m:ay}(hI:TabI c m){p:PredT}{s:Spn}:∀r∈cS m p s,bw c r=true∧(aY m (aJ r)).isSome=true:=fun r hr=>⟨hI.fits r (fq hr),eN.2 ⟨r,fq hr,rfl⟩⟩
theorem iH {m:ay}{p:PredT}{s:Spn}{n:Nat}(h:m.length≤n):(cS m p s).length≤n:=Nat.le_trans (List.length_filter_le ..) h
theorem nO {B w:World}{D:PH}{x o i:Nat}{X:TxM}{l:List HP}{m:ay}{c:List Bool}{e:StmE}{s:StmM}(hs:StmOk D e s)(hi:s.table=(i:Int))(hm:X.tabs[i]?=some m)(hc:X.cols[i]?=some c)(hI:TabI c m)(hml:m.length≤200)(hrl:∀r∈m,r.length≤1000000)(hb:X.log.length+200≤10000)(h:TxIn B w D x o X l) :
  Calls Tryz.prog 75 #[.pointer (some ⟨x,0,none⟩),.agg e.cells.toArray] w (d4 B D x o l (X.change s)):=by
 have xi:=CM (show X.change s=X.all i (cS m e.pe.p cq) s.sets by unfold TxM.change;rw [hi,dP hm,hs.pred])
 obtain⟨W0,hW0,h2⟩:=dN h e.cells.toArray aZ tSt bl
 have uI:=CM hW0
 have vL:=CM (ny (pe:=e.pe) cq hm hrl hs.subs (h2.kept (Kept.refl (fun _=>False) W0).drew))
 obtain⟨t,g,og,pc,c0,d1,hpc,-⟩:=ei h2 hm
 have uv:=CM h2
 have vK:=CM (show e.table=(i:Int)from hs.table.trans hi)
 have vT:=CM hs.sets
 have HM:=CM hm
 have HC:=CM hc
 have wy:=CM hI
 have Aq:=CM hml
 have HB:=CM hb
 have Au:=CM (mq (p:=e.pe.p) (s:=cq) hI)
 have xl:=CM (iH (p:=e.pe.p) (s:=cq) hml)
 obtain⟨sa,sn,sc,hsv⟩:∃a n c,e.sets.v = .slice a n c:=⟨_,_,_,rfl⟩
 have wm:=CM hsv
 rw [hsv]at vT
 clear h hs hi hm hrl hW0 h2 d1 hpc hc hI hml hb hsv
 go_enter Tryz.func75,Tryz.ntmps75
 go_upto_region 1 with fail
 rw [←uI.out]
 clear uI
 generalize w.heap.size+1=ba at uv vL ⊢
 generalize w.heap.size=bs at uv vL ⊢
 obtain⟨x0,x2,x3,x4,x5,x6,x7,x17,x18,x19⟩:=bj (uv.out.sat.blk 1 rfl)
 rw [vK.out]at x2
 rw [wm.out]at x7
 obtain⟨z0,z1,z2,z3,z4,z5,z6,z7,z8⟩:=bX (uv.out.sat.blk 1 rfl)
 refine af [(0,false,15),(1,false,15),(2,false,15),(3,false,12),(4,false,12),(5,false,12),(6,false,12),(7,false,12),(8,false,12),(9,false,12),(10,false,12),(11,false,12),(13,false,15),(14,false,15),(12,true,0),(15,true,0),(16,true,0)] (by kernel_rfl) (by kernel_rfl) ?_
 iterate 14 (refine ae rfl rfl (fun K hK=>?_);go_simp;refine hK _ ?_;clear hK K)
 refine ag rfl ?_
 refine au rfl (fun K hK=>?_)
 go_simp
 refine vL.out.mono ?_
 rintro e1 w1 ⟨ra,rc,D2,rfl,hle,hrw,hs1⟩
 have uk:=CM hs1
 have uF:=CM hle
 have vm:=CM hrw
 clear hle hrw hs1 uv vL c0 x0 x2 x3 x4 x5 x6 x7 x17 x18 x19 z0 z1 z2 z3 z4 z5 z6 z7 z8
 obtain⟨rs,hrs⟩:∃rs,cS m e.pe.p cq=rs:=⟨_,rfl⟩
 rw [hrs]at vm xi Au xl ⊢
 clear hrs
 have vd:=CM (pg HM.out HC.out wy.out Aq.out Au.out vm.out (vT.out.mono uF.out) xl.out (by have h1:=HB.out;have h2:=xl.out;omega) uk.out)
 generalize hN:rs.length=N at *
 obtain⟨x0,x2,x3,x4,x5,x6,x7,x17,x18,x19⟩:=bj (uk.out.sat.blk 1 rfl)
 rw [vK.out]at x2
 rw [wm.out]at x7
 obtain⟨z0,z1,z2,z3,z4,z5,z6,z7,z8⟩:=bX (uk.out.sat.blk 1 rfl)
 obtain⟨t,g,og,pc,c0,d1,hpc,-⟩:=ei uk.out HM.out
 clear d1 hpc
 refine hK _ _ ?_
 clear hK K
 refine wpList_nil ?_
 refine And.intro ?_ ?_
 ·go_simp
 refine ag rfl ?_
 refine au rfl (fun K hK=>?_)
 go_simp
 refine vd.out.mono ?_
 rintro e2 w2 ⟨qa,qn,qc,D3,rfl,hle3,hrw3,hs3⟩
 have ut:=CM hs3
 have uX:=CM (uF.out.trans hle3)
 have xX:=CM hrw3
 clear hle3 hrw3 hs3 vd uk c0 x0 x2 x3 x4 x5 x6 x7 x17 x18 x19 z0 z1 z2 z3 z4 z5 z6 z7 z8
 obtain⟨x0,x2,x3,x4,x5,x6,x7,x17,x18,x19⟩:=bj (ut.out.sat.blk 1 rfl)
 rw [vK.out]at x2
 rw [wm.out]at x7
 obtain⟨z0,z1,z2,z3,z4,z5,z6,z7,z8⟩:=bX (ut.out.sat.blk 1 rfl)
 obtain⟨c0,-⟩:=cW (ut.out.choose_spec.2)
 refine hK _ _ ?_
 clear hK K
 refine wpList_nil ?_
 refine And.intro ?_ ?_
 ·go_simp
 refine ag rfl ?_
 refine az rfl _ _ _ rfl bl ba rfl [_,.slice qa qn qc,_] rfl aZ ut.out (by kernel_rfl) rfl (by intro u hu;simp at hu;rcases hu with rfl|rfl|rfl<;>rfl) ?_
 intro w6 hs6
 refine wpList_nil ?_
 have uu:=CM hs6
 clear hs6 ut c0 x0 x2 x3 x4 x5 x6 x7 x17 x18 x19 z0 z1 z2 z3 z4 z5 z6 z7 z8
 obtain⟨x0,x2,x3,x4,x5,x6,x7,x17,x18,x19⟩:=bj (uu.out.sat.blk 1 rfl)
 rw [vK.out]at x2
 rw [wm.out]at x7
 obtain⟨z0,z1,z2,z3,z4,z5,z6,z7,z8⟩:=bX (uu.out.sat.blk 1 rfl)
 obtain⟨c0,-⟩:=cW (uu.out.choose_spec.2)
 refine And.intro ?_ ?_
 ·go_simp
 refine ah ?_
 go_wp2_with fail
 refine bodyPost_ret (aR rfl _ _ rfl (bF rfl (aA (uu.out.sat.blk 0 rfl)))) rfl ?_
 rw [xi.out]
 exact⟨qa,qn,qc,D3,rfl,uX.out,xX.out,uu.out.drop.drop⟩
def TxM.clear (X:TxM)(s:StmM):TxM×AnsM:=((X.hold s.table s.pred cq).foldl (fun y r=>y.out s.table (aJ r)) X,jt (X.hold s.table s.pred cq).length)
theorem ox {X:TxM}{i:Nat}{m:ay}(hm:X.tabs[i]?=some m):∀(n:Nat) (rs:ay),n≤rs.length→∃m',((rs.take n).foldl (fun y r=>y.out (i:Int) (aJ r)) X).tabs[i]?=some m'∧((rs.take n).foldl (fun y r=>y.out (i:Int) (aJ r)) X).log.length=X.log.length+n
 | 0,_,_=>⟨m,hm,rfl⟩
 | n+1,rs,hn=>by
  obtain⟨m',h1,h2⟩:=ox hm n rs (by omega)
  obtain⟨r,hr⟩:∃r,rs[n]?=some r:=⟨rs[n]'(by omega),List.getElem?_eq_getElem _⟩
  rw [List.take_add_one,hr]
  simp only [Option.toList_some,List.foldl_append,List.foldl_cons,List.foldl_nil]
  generalize (rs.take n).foldl (fun y r=>y.out (i:Int) (aJ r)) X=Y at h1 h2 ⊢
  have hlt:=(List.getElem?_eq_some_iff.1 h1).1
  refine⟨dx m' (aJ r),?_,?_⟩
  ·show(Y.tabs.set (i:Int).toNat (dx (Y.tab i) _))[i]?=_
   rw [Int.toNat_natCast,List.getElem?_set_self hlt,fG h1]
  ·show(Y.log ++ [_]).length=_
   rw [List.length_append,h2];rfl
theorem pK {B w:World}{D:PH}{x o i:Nat}{X:TxM}{l:List HP}{m:ay}{c:List Bool}{e:StmE}{s:StmM}(hs:StmOk D e s)(hi:s.table=(i:Int))(hm:X.tabs[i]?=some m)(hI:TabI c m)(hml:m.length≤200)(hrl:∀r∈m,r.length≤1000000)(hb:X.log.length+200≤10000)(h:TxIn B w D x o X l) :
  Calls Tryz.prog 76 #[.pointer (some ⟨x,0,none⟩),.agg e.cells.toArray] w (d4 B D x o l (X.clear s)):=by
 have xi:=CM (show X.clear s=((cS m e.pe.p cq).foldl (fun y r=>y.out i (aJ r)) X,jt (cS m e.pe.p cq).length) by unfold TxM.clear;rw [hi,dP hm,hs.pred])
 obtain⟨W0,hW0,h2⟩:=dN h e.cells.toArray aZ tSt bl
 have uI:=CM hW0
 have vL:=CM (ny (pe:=e.pe) cq hm hrl hs.subs (h2.kept (Kept.refl (fun _=>False) W0).drew))
 obtain⟨t,g,og,pc,c0,d1,hpc,-⟩:=ei h2 hm
 have uv:=CM h2
 have vK:=CM (show e.table=(i:Int)from hs.table.trans hi)
 have HM:=CM hm
 have wy:=CM hI
 have HB:=CM hb
 have Au:=CM (mq (p:=e.pe.p) (s:=cq) hI)
 have xl:=CM (iH (p:=e.pe.p) (s:=cq) hml)
 clear h hs hi hm hrl hW0 h2 d1 hpc hI hml hb
 go_enter Tryz.func76,Tryz.ntmps76
 go_upto_region 1 with fail
 rw [←uI.out]
 clear uI
 generalize w.heap.size+1=ba at uv vL ⊢
 generalize w.heap.size=bs at uv vL ⊢
 obtain⟨x0,x2,x3,x4,x5,x6,x7,x17,x18,x19⟩:=bj (uv.out.sat.blk 1 rfl)
 rw [vK.out]at x2
 obtain⟨z0,z1,z2,z3,z4,z5,z6,z7,z8⟩:=bX (uv.out.sat.blk 1 rfl)
 refine af [(0,false,9),(1,false,9),(2,false,9),(3,false,9),(4,false,9),(5,false,9),(6,false,9),(7,false,9),(8,false,9),(9,true,0),(10,false,999)] (by kernel_rfl) (by kernel_rfl) ?_
 iterate 9 (refine ae rfl rfl (fun K hK=>?_);go_simp;refine hK _ ?_;clear hK K)
 refine ag rfl ?_
 refine au rfl (fun K hK=>?_)
 go_simp
 refine vL.out.mono ?_
 rintro e1 w1 ⟨ra,rc,D2,rfl,hle,hrw,hs1⟩
 have uk:=CM hs1
 have uF:=CM hle
 clear hle hs1 uv vL c0 x0 x2 x3 x4 x5 x6 x7 x17 x18 x19 z0 z1 z2 z3 z4 z5 z6 z7 z8
 obtain⟨rs,hrs⟩:∃rs,cS m e.pe.p cq=rs:=⟨_,rfl⟩
 rw [hrs]at hrw xi Au xl ⊢
 clear hrs
 obtain⟨⟨us,hu1,hu2,hu3,hu4⟩,hfit⟩:=hrw
 have HU:=CM (And.intro hu1 (And.intro hu2 hu4))
 generalize hN:rs.length=N at *
 have HN:=CM hN
 have xj:=CM hu3
 have hnb:N≤200:=xl.out
 clear hu1 hu2 hu3 hu4 hfit hN
 refine hK _ _ ?_
 clear hK K
 refine wpList_nil ?_
 refine And.intro ?_ ?_
 ·go_simp
 refine ae rfl rfl (fun K hK=>?_);go_simp;refine hK _ ?_;clear hK K
 refine ah ?_
 go_wp2_with fail
 go_loopw [20] (fun idx wr=>∃(k:Nat),idx = .int .i64 k∧k≤N∧TxIn B wr D2 x o ((rs.take k).foldl (fun y r=>y.out (i:Int) (aJ r)) X) (blk ba aZ bl::blk bs e.cells.toArray tSt::l)) (fun idx _=>N-(intOf idx).toNat)
 case atStart=>exact⟨0,rfl,Nat.zero_le _,uk.out⟩
 case round =>
  obtain⟨k,rfl,hk,htx⟩:=hrel
  have uS:=CM htx
  clear htx uk
  by_cases hlt2:k<N
  ·obtain⟨r,hr⟩:∃r,rs[k]?=some r:=⟨rs[k]'(by rw [HN.out];exact hlt2),List.getElem?_eq_getElem _⟩
   obtain⟨u,hu⟩:∃u,us[k]?=some u:=⟨us[k]'(by rw [HU.out.1];exact hlt2),List.getElem?_eq_getElem _⟩
   obtain⟨m',hp1,hp2⟩:=ox HM.out k rs (by rw [HN.out];exact hk)
   obtain⟨k0,h0,hk0,hk1,-⟩:=dU (Au.out r (List.mem_of_getElem? hr)).1
   have Av:=CM (oG (k:=k0) hp1 hk1 (by rw [hp2];have:=HB.out;omega) (uS.out.kept (Kept.refl (fun _=>False) _).drew))
   have wd:=CM (show(rs.take (k+1)).foldl (fun y r=>y.out (i:Int) (aJ r)) X=((rs.take k).foldl (fun y r=>y.out (i:Int) (aJ r)) X).out (i:Int) k0 by rw [List.take_add_one,hr,←hk0];simp)
   have hrd:=RdP.rd (HU.out.2.2 k u r hu hr) uS.out.sat
   obtain⟨ao,rcc,rfl⟩:∃ao rc,u = .slice ao r.length rc:=by obtain⟨_,_,ao,rc,h,_⟩:=hrd;exact⟨ao,rc,h⟩
   obtain⟨rg,rog,rfl⟩:=ef hrd h0 rfl
   obtain⟨y0,y1,y2⟩:=aM (h:=0) hrd h0
   rw [Nat.zero_mul,Nat.add_zero]at y0 y1 y2
   have hlen2:0<r.length:=(List.getElem?_eq_some_iff.1 h0).1
   have hlen:(0:Int)<(r.length:Int):=by omega
   obtain⟨fg,fo,rfl,hcu⟩:∃fg fo,ra=some ⟨fg,fo,none⟩∧wr.cell? ⟨fg,fo+k,none⟩=some (.slice (some ⟨rg,rog,none⟩) r.length rcc):=by
    obtain⟨_,_,ao,cap,hv,_,_,_,hcell⟩:=xj.out.rd uS.out.sat
    cases hv
    rcases hcell with h0|⟨g,og,hg,hcc⟩
    ·omega
    ·exact⟨g,og,hg,hcc k _ hu⟩
   have hki:(k:Int)<(N:Int):=by omega
   obtain⟨x0,x2,x3,x4,x5,x6,x7,x17,x18,x19⟩:=bj (uS.out.sat.blk 1 rfl)
   rw [vK.out]at x2
   generalize r.length=RN at *
   clear hu hr hp1 hp2 h0 hk0 hk1 hrd
   go_upto_region 5 with fail
   refine af [(0,false,6),(1,false,6),(2,false,6),(3,false,6),(4,false,6),(5,false,6),(6,true,0)] (by kernel_rfl) (by kernel_rfl) ?_
   iterate 6 (refine ae rfl rfl (fun K hK=>?_);go_simp;refine hK _ ?_;clear hK K)
   refine ag rfl ?_
   refine au rfl (fun K hK=>?_)
   go_simp
   refine Av.out.mono ?_
   rintro e2 w2 ⟨rfl,htx5⟩
   have uR:=CM htx5
   clear htx5 Av uS hcu y0 y1 y2 x0 x2 x3 x4 x5 x6 x7 x17 x18 x19
   refine hK _ _ ?_
   clear hK K
   refine wpList_nil ?_
   refine And.intro ?_ ?_
   ·go_simp
   refine ah ?_
   go_wp2_with fail
   go_roundw
   case rel=>exact⟨k+1,by go_num,by omega,by rw [wd.out];exact uR.out⟩
   case measure=>simp [intOf];omega
  ·obtain rfl:k=N:=by omega
   have hki:¬((k:Int)<(k:Int)):=by omega
   have wd:=CM (show TxIn B _ D2 x o (rs.foldl (fun y r=>y.out (i:Int) (aJ r)) X) (blk ba aZ bl::blk bs e.cells.toArray tSt::l)from List.take_of_length_le (Nat.le_of_eq HN.out)▸uS.out)
   clear uS
   go_wp2_with (refine az rfl _ _ _ rfl bl ba rfl [.int .i64 0,.slice none 0 0,.int .i64 (k:Int)] rfl aZ wd.out (by kernel_rfl) rfl (by intro u hu;simp at hu;rcases hu with rfl|rfl|rfl<;>rfl) ?_;intro w6 hs6;have uu:=CM hs6;clear hs6 wd)
   refine bodyPost_ret (aR rfl _ _ rfl (bF rfl (aA (uu.out.sat.blk 0 rfl)))) rfl ?_
   rw [xi.out]
   exact⟨none,0,0,D2,rfl,uF.out,RowsF.nil _,uu.out.drop.drop⟩
theorem lay_in {c R vs:List Value}{k:Nat}(h:k+vs.length≤c.length):lay (c++R) k vs=lay c k vs++R:=by
 unfold lay
 rw [List.take_append_of_le_length (by omega),List.drop_append_of_le_length (by omega),List.append_assoc,List.append_assoc,List.append_assoc]
theorem iJ (o:Nat)(lv:Value){sv:List Int}{cs:List CurE}(hs:sv.length=4){n k:Nat}{c c':CurE}(hn:cs[n]?=some c){vs:List Value}(hk:k+vs.length≤27)(hc:lay c.cells k vs=c'.cells) :
  lay (aO o lv sv cs).toList (6+n*27+k) vs=(aO o lv sv (cs.set n c')).toList:=by
 have hlt:=(List.getElem?_eq_some_iff.1 hn).1
 have e:∀cs:List CurE,(aO o lv sv cs).toList=((.pointer (some ⟨o,0,none⟩)::lv::sv.map (Value.int .i64))++cs.flatMap CurE.cells):=fun cs=>rfl
 have hcs:cs=cs.take n++c::cs.drop (n+1):=by
  rw [←(List.getElem?_eq_some_iff.1 hn).2]
  simp
 rw [e,e,show 6+n*27+k=(Value.pointer (some ⟨o,0,none⟩)::lv::sv.map (Value.int .i64)).length+(n*27+k) by simp [hs];omega,nA,List.set_eq_take_append_cons_drop,if_pos hlt]
 congr 1
 have hl:((cs.take n).flatMap CurE.cells).length=n*27:=by rw [cz CurE.len,List.length_take];congr 1;omega
 conv=>lhs;rw [hcs]
 rw [List.flatMap_append,List.flatMap_append,List.flatMap_cons,List.flatMap_cons,←hl,nA,lay_in (by rw [CurE.len];exact hk),hc]
theorem lay_one (L:List Value)(j:Nat)(v:Value)(h:j<L.length):lay L j [v]=L.set j v:=by
 unfold lay
 rw [List.set_eq_take_append_cons_drop,if_pos h]
 simp
theorem sh {w:World}{x off:Nat}{c:CurE}(h:∀j v,c.cells[j]?=some v→w.cell? ⟨x,off+j,none⟩=some v) :
    w.cell? ⟨x,off,none⟩=some (.bool c.opn)∧w.cell? ⟨x,off+2,none⟩=some (.bool c.stands)∧w.cell? ⟨x,off+3,none⟩=some (.int .i64 c.table) ∧
    (w.cell? ⟨x,off+4,none⟩=some (.int .i64 c.pe.op)∧w.cell? ⟨x,off+5,none⟩=some (.int .i64 c.pe.col)∧w.cell? ⟨x,off+6,none⟩=some (.bool c.pe.v.t)∧w.cell? ⟨x,off+7,none⟩=some (.int .i64 c.pe.v.n)∧w.cell? ⟨x,off+8,none⟩=some (.string c.pe.v.s) ∧
      w.cell? ⟨x,off+9,none⟩=some (.bool c.pe.w.t)∧w.cell? ⟨x,off+10,none⟩=some (.int .i64 c.pe.w.n)∧w.cell? ⟨x,off+11,none⟩=some (.string c.pe.w.s)∧w.cell? ⟨x,off+12,none⟩=some (.slice c.pe.la c.pe.ln c.pe.lc)) ∧
    (w.cell? ⟨x,off+13,none⟩=some (.bool c.frm.no)∧w.cell? ⟨x,off+14,none⟩=some (.bool c.frm.hasLo)∧w.cell? ⟨x,off+15,none⟩=some (.bool c.frm.openLo)∧w.cell? ⟨x,off+16,none⟩=some (.bool c.frm.lo.t)∧w.cell? ⟨x,off+17,none⟩=some (.int .i64 c.frm.lo.n)∧w.cell? ⟨x,off+18,none⟩=some (.string c.frm.lo.s) ∧
      w.cell? ⟨x,off+19,none⟩=some (.bool c.frm.hasHi)∧w.cell? ⟨x,off+20,none⟩=some (.bool c.frm.openHi)∧w.cell? ⟨x,off+21,none⟩=some (.bool c.frm.hi.t)∧w.cell? ⟨x,off+22,none⟩=some (.int .i64 c.frm.hi.n)∧w.cell? ⟨x,off+23,none⟩=some (.string c.frm.hi.s)) ∧
    (w.cell? ⟨x,off+24,none⟩=some (.bool c.key.t)∧w.cell? ⟨x,off+25,none⟩=some (.int .i64 c.key.n)∧w.cell? ⟨x,off+26,none⟩=some (.string c.key.s)) :=
  ⟨h 0 _ rfl,h 2 _ rfl,h 3 _ rfl,⟨h 4 _ rfl,h 5 _ rfl,h 6 _ rfl,h 7 _ rfl,h 8 _ rfl,h 9 _ rfl,h 10 _ rfl,h 11 _ rfl,h 12 _ rfl⟩,
   ⟨h 13 _ rfl,h 14 _ rfl,h 15 _ rfl,h 16 _ rfl,h 17 _ rfl,h 18 _ rfl,h 19 _ rfl,h 20 _ rfl,h 21 _ rfl,h 22 _ rfl,h 23 _ rfl⟩,h 24 _ rfl,h 25 _ rfl,h 26 _ rfl⟩
section
variable {B w : World} {D D' : PH} {x o n k : Nat} {X : TxM} {H : TxH} {l : List HP} {c c' : CurE}
theorem mU (h:Sat B D' w (txL D x o X H++l))(hsv:X.saves.length=4)(hn:H.cs[n]?=some c):(∀j v,c.cells[j]?=some v→w.cell? ⟨x,6+n*27+j,none⟩=some v)∧∀j,w.frozen? ⟨x,j,none⟩=false:=by
 have hb:=h.blk 0 rfl
 refine⟨fun j v hj=>?_,fun j=>by simp [World.frozen?,hb]⟩
 simp only [World.cell?,hb]
 rw [Nat.add_assoc]
 exact gH o H.lv hsv hn hj
theorem jC (o:Nat)(lv:Value){sv:List Int}(cs:List CurE)(hs:sv.length=4):(aO o lv sv cs).toList.length=6+cs.length*27:=by
 show((.pointer (some ⟨o,0,none⟩)::lv::(sv.map (Value.int .i64)++cs.flatMap CurE.cells)):List Value).length=_
 rw [List.length_cons,List.length_cons,List.length_append,List.length_map,hs,cz CurE.len]
 omega
theorem qx (h:Sat B D' w (txL D x o X H++l))(hsv:X.saves.length=4)(hn:H.cs[n]?=some c)(hk:k+1≤27)(v:Value)(hc:lay c.cells k [v]=c'.cells) :
  Sat B D' (w.setCell ⟨x,6+n*27+k,none⟩ v) (txL D x o X ⟨H.lv,H.es,H.cs.set n c'⟩++l):=by
 have hlt:=(List.getElem?_eq_some_iff.1 hn).1
 have h1:=iJ o H.lv hsv hn (vs:=[v]) hk hc
 have h2:6+n*27+k<(aO o H.lv X.saves H.cs).toList.length:=by rw [jC o H.lv H.cs hsv];omega
 rw [lay_one _ _ _ h2]at h1
 have h3:(aO o H.lv X.saves H.cs).setIfInBounds (6+n*27+k) v=aO o H.lv X.saves (H.cs.set n c'):=by
  rw [←Array.toList_inj,Array.toList_setIfInBounds];exact h1
 show Sat B D' _ (blk x (aO o H.lv X.saves (H.cs.set n c')) tTx::_)
 rw [←h3]
 exact Sat.set h _ v
theorem eU {P:Program}{ops:Array Oper}{rest:List Oper}{oo:Oper}{a:Act}{Q:Exit→Act→World→Prop}(hgd:oo.guard=none)(ty:TypeId)(xo yo:Operand)(ho:oo.op = .store ty xo yo)(off:Nat)(hx:a.eval xo = .pointer (some ⟨x,off,none⟩))(hoff:off=6+n*27+k)(vs:List Value)(hy:a.eval yo = .agg vs.toArray)
  (hs:Sat B D' w (txL D x o X H++l)) (hsv:X.saves.length=4) (hn:H.cs[n]?=some c) (hk:k+vs.length≤27) (hc:lay c.cells k vs=c'.cells) (h1:∀u∈vs,u.oneCell'=true) (hi:(P.info? ty).map (·.size)=some vs.length)
  (h:∀w',Sat B D' w' (txL D x o X ⟨H.lv,H.es,H.cs.set n c'⟩++l)→wpList P ops Q rest (a.put oo.dst undef) w'):wpList P ops Q (oo::rest) a w:=by
 subst hoff
 have hlt:=(List.getElem?_eq_some_iff.1 hn).1
 refine dK hgd ty xo yo ho tTx x _ hx vs hy (aO o H.lv X.saves H.cs).toList (by rw [Array.toArray_toList];exact hs) hi (by rw [jC o H.lv H.cs hsv];omega) h1 (fun w' hs'=>h w' ?_)
 rw [iJ o H.lv hsv hn hk hc,Array.toArray_toList]at hs'
 exact hs'
end
end Go.Proofs.YtdobimafhbfkhaaGreat
