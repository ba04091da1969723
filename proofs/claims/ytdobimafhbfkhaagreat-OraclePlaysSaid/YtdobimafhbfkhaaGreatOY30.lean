/- A table's rows of which a predicate holds (Oracle.hold), and what follows. -/
import Derived.Test.YtdobimafhbfkhaaGreatOY29
set_option maxHeartbeats 64000000
namespace Go.Proofs.YtdobimafhbfkhaaGreat
open Go.ChangeShapes Go.WideShapes Go.ChangeAt Go.RowKit
set_option maxRecDepth 100000
set_option linter.unusedSimpArgs false
attribute [local go_sem] Oper.semAt_some
theorem v6 (m:aq)(p:PredT)(s:Spn):cz m p s=(m.filter (fun r=>bI s (au r))).filter p.holds:=by
 unfold cz;rw [List.filter_filter];exact List.filter_congr (fun r _=>by rw [Bool.and_comm])
structure HoldI (wa:World)(bo:Nat)(R:aq)(p:PredT)(pre:PL)(W:World):Prop where
 box:∃es:List RowE,es.map RowE.row=(R.take pre.length).filter p.holds∧BoxRows wa bo es W
 len:pre.length≤R.length
section
variable {wa W W' : World} {bo k : Nat} {R : aq} {p : PredT} {pre : PL}
theorem HoldI.grown {row:Option Nat}(h:HoldI wa bo R p pre W)(hg:W.grownBy W' row)(hr:∀r,row=some r→wa.heap.size≤r∧∃o:Obj,W.heap[r]?=some o∧o.isCells=false):HoldI wa bo R p pre W':=by
 obtain⟨⟨es,h1,h2⟩,h3⟩:=h;exact⟨⟨es,h1,h2.grown hg hr⟩,h3⟩
theorem HoldI.ownFrom (hk:wa.heap.size≤k):OwnFrom k (HoldI wa bo R p):=fun _ _ _ _ h hg hr=>h.grown hg (fun r e=>⟨Gq hk (hr r e).1,(hr r e).2⟩)
end
theorem RowsL.fit {D:PH}{L:PL}{l:aq}(h:RowsL D L l):∀r∈l,bG r:=by
 induction h with
 | nil=>intro r hr;cases hr
 | cons hk hr _ ih =>
  intro r hr2;rcases Gl.1 hr2 with rfl|hr2
  ·exact hr.2
  ·exact ih r hr2
theorem tC {R:aq}{p:PredT}{j:Nat}{r:List Val}(h:R[j]?=some r):(R.take (j+1)).filter p.holds=(R.take j).filter p.holds++(if p.holds r then [r]else []):=by
 rw [F3,h,List.filter_append];cases hp:p.holds r<;>simp [hp]
theorem oE {B w:World}{D:PH}{o i:Nat}{O:OrM}{l:List HP}{m:aq}{pe:PredE}(sp:Spn)(hm:O.tabs[i]?=some m)(hrl:∀r∈m,r.length≤1000000)(hp:PredsAt D (.slice pe.la pe.ln pe.lc) pe.subs)(h:Sat B D w (orP D o O::l)) :
  Calls Tryz.prog 43 #[.pointer (some ⟨o,0,none⟩),.int .i64 i,.agg pe.cells.toArray,sp.v] w fun e w'=>∃(a:Option Addr) (n cc:Nat) (D':PH),e = .returned (.slice a n cc)∧PH.le D D'∧RowsF D' (.slice a n cc) (cz m pe.p sp)∧Sat B D' w' (orP D' o O::l):=by
 obtain⟨wa,hwa,hka,hbp,hbs⟩:=sQ w pe.cells.toArray sp.cells tPr tS;have hA:=h.kept hka;obtain⟨y,hy,hsA⟩:=gB hA;obtain⟨t,g,og,pc,ht,hpv,hpcA⟩:=iG hy hm hsA;obtain⟨-,d1A⟩:=dJ hsA;rw [hpv]at d1A;obtain⟨⟨T,L⟩,hT,hsT⟩:=Sat.open_ex (jW hm ht hsA);have Ar:=FH (jP hsT);have HT:=FH hT;have wU:=FH hA.pool;have HA:=FH hA;obtain⟨W1,hW1⟩:∃W1,W1=wa.alloc (.cells #[.slice none 0 0] tRs):=⟨_,rfl⟩;have hs0:Sat wa (aB wa) W1 [blk wa.heap.size #[.slice none 0 0] tRs]:=by rw [hW1];exact(Sat.start wa).alloc _ _
 have hk1:Kept (fun _=>False) wa W1:=by rw [hW1];exact(Kept.refl _ _).alloc _
 have hpc:=hk1.cell' hpcA (fun h=>h);have d1:=hk1.cell' d1A (fun h=>h);have hlt:(i:Int)<(O.tabs.length:Int):=by have:=(FO.1 hm).1;omega
 generalize O.tabs.length=TN at *;obtain⟨s0,s1,s2,s3,s4,s5,s6,s7,s8,s9,s10⟩:=Spn.at (s:=sp) ((hk1.block _ (aw hbs) (fun h=>h)).trans hbs);have Fc:=FH hbp;have wS:=FH hs0;have wN:=FH hk1;have Dt:=FH hp;have Bj:=FH hrl;have HW:=FH hwa;have wM:=FH hW1;have xl:=FH (show wa.heap.size=w.heap.size+1+1 by rw [hwa,World.size_alloc,World.size_alloc]);have D1A:=FH d1;clear h hka hbp hbs hA hy hsA hsT hT d1A hpcA hs0 hk1 hwa hW1 hp hrl hm ht hpv;dsimp only [Spn.v];refine(callsIn_wide (n:=6)).1 (callsIn_of_wp_marks Tryz.func43 rfl trivial ?_ rfl);simp only [Tryz.ntmps43,List.size_toArray,List.length_cons,List.length_nil,Nat.reduceAdd,Nat.reduceSub,Array.replicate_succ,Array.replicate_zero,List.push_toArray,List.append_toArray,List.nil_append,List.cons_append];refine wpIn_wide.2 ?_;go_upto_region 2 with fail
 have hw2:=HW.out;dsimp only [Spn.cells]at hw2;rw [←hw2,←xl.out,←wM.out];clear hw2;generalize hbo:wa.heap.size=bo at wS xl ⊢;have Fd:=FH hbo;generalize w.heap.size+1=bs at *;generalize w.heap.size=bp at *;clear hbo HW wM;refine aH [rq 0 8,rq 1 8,rq 2 8,rq 3 8,rq 4 8,rq 5 8,rq 6 8,rq 7 8,(8,true,0)] ?_;iterate 8 (refine ae rfl rfl fun K hK=>?_;go_simp;apply hK;clear hK K)
 refine af rfl ?_;refine al rfl fun K hK=>?_;go_simp;refine(uI (some ⟨t,0,none⟩) sp W1.drew).mono ?_;rintro e2 w3 ⟨r1,r2,rfl,hk2,hr1,hr2,hn1,hn2⟩;have hk3:Kept (fun _=>False) W1 w3:=((Kept.refl _ W1).drew).trans hk2 (fun _ h=>h.elim);have hs3:Sat wa (aB wa) w3 [blk bo #[.slice none 0 0] tRs]:=wS.out.kept hk3;have hk13:Kept (fun _=>False) wa w3:=wN.out.trans hk3 (fun _ h=>h.elim);have hb3:w3.heap[bo]?=some (.cells #[.slice none 0 0] tRs (0,0)):=hs3.blk 0 rfl;have hblt:=aw hb3;have hb1:bo<W1.heap.size:=aw (wS.out.blk 0 rfl);have hbr:BoxRow w3 bo tRs tW 1 (.slice none 0 0) 0 []:=⟨hb3,Own.nil _ _ _,fun h=>by cases h⟩;have hnot:∀k,OwB bo w3 k→k=bo:=fun k hk=>(hbr.ow hk).elim (fun h=>h) (fun h=>by cases h);obtain⟨E,hE1,hE2⟩:=hbr.iter;have hsz1:=hk2.size;have hEa:PH.le (cellsOf (aB wa)) E:=fun k o hk=>by
  obtain⟨cs,ty,fr,rfl⟩:=eR hk;have h0:=gU _ _ _ hk;have hlt:=aw h0;exact hE1 _ _ _ _ ((hk13.block k hlt (fun h=>h)).trans h0) (fun h=>by have:=hnot _ h;have:=Fd.out;omega)
 have e1:=hE1 _ _ _ _ hr1 (fun h=>by have:=hnot _ h;have:W1.drew.heap.size=W1.heap.size:=rfl;omega);have e2:=hE1 _ _ _ _ hr2 (fun h=>by have:=hnot _ h;have:W1.drew.heap.size=W1.heap.size:=rfl;omega);have xZ:=FH (Ar.out.pool hEa);have A7:=FH (HT.out.good.tells sp);have AC:=FH ((HT.out.rows.mono wU.out).span sp);have zF:=FH (show ∀r∈m.filter (fun r=>bI sp (au r)),r.length≤1000000 from fun r hr=>Bj.out r (List.mem_filter.1 hr).1);have ED:=FH (v6 m pe.p sp);have AB:=FH (show(m.filter (fun r=>bI sp (au r))).length≤200 from Gq (List.length_filter_le ..) HT.out.len);generalize hR:m.filter (fun r=>bI sp (au r))=R at AC zF ED AB;have zC:=FH e1;have As:=FH e2;have Fe:=FH hE2;have wI:=FH hs3;have B6:=FH hk13;have By:=FH hblt;have xL:=FH hb3;have Ff:=FH (Dt.out.mono wU.out);clear hR hk2 hk3 hs3 hb1 hbr hnot hE1 hE2 hsz1 hEa e1 e2 hr1 hr2 hn1 hn2 hk13 hb3 hblt hpc d1 hlt D1A s0 s1 s2 s3 s4 s5 s6 s7 s8 s9 s10;refine hK _ _ ?_;clear hK K;refine wpList_nil ?_;apply And.intro
 ·go_simp
 refine ag ?_;go_wp2_with fail;refine(wpIn_wide (n:=5)).1 ?_;refine jD (n:=5) rfl (by omega) (gf:=84) (lb:=#[.pointer (some ⟨r1,0,none⟩),.pointer (some ⟨r2,0,none⟩)]) rfl trivial (enters_of Tryz.func84 (by kernel_rfl) rfl)
  (tZ (T:=T) (s:=sp) (q:=inS sp L) (t:=t) (D:=E) (l8 By.out) 4 xZ.out A7.out zC.out As.out Fe.out)
  (fun h k=>KpO.trans h k) (fun W l o o' hl h hc _=>KpO.put (l8 By.out) hl h hc) (Below.refl _ _) (fun _=>rfl)
  (HoldI wa bo R pe.p) (fun p W=>HoldI wa bo R pe.p p.1 W∧p.1 ++ [p.2] <+: inS sp L) (fun _ _ _=>False) (HoldI.ownFrom B6.out.size) (fun p X Y row h hg hr=>⟨h.1.grown hg (fun r e=>⟨Gq B6.out.size (hr r e).1,(hr r e).2⟩),h.2⟩) (fun _ _ _ _ _ h _ _=>h) ?h0 ?hnew
  (fun (x:Val×VT) (a':Act) (_:World)=>a' = { tmps:=#[.pointer (some ⟨o,0,none⟩),.int .i64 i,.agg pe.cells.toArray,sp.v,undef,undef,.pointer (some ⟨bp,0,none⟩),.pointer (some ⟨bs,0,none⟩),.slice none 0 0,.pointer (some ⟨bo,0,none⟩),undef,x.2.v,.pointer (some ⟨o,0,none⟩),.pointer (some ⟨o,0,none⟩),.pointer (some ⟨o,1,none⟩),.slice (some ⟨g,og,none⟩) TN pc,.int .i64 i,.pointer (some ⟨g,og+i,none⟩),.pointer (some ⟨t,0,none⟩),sp.v,rngV r1 r2,x.1.v,x.2.v,undef,undef,undef,undef,undef,undef,undef,undef,undef],defers:=[] }) (fun _ _ _ _ _ _ h _ _=>h) ?assign ?body ?done ?stop
 case h0 =>
  refine⟨⟨[],rfl,.slice none 0 0,?_⟩,Gp _⟩;have h2:Sat wa (aB wa) w3 (aY []::_):=Sat.togroup (L:=[]) (wI.out.own_nil tW 1);exact h2.rot.swap
 case hnew =>
  rintro pre x X Y hi hk hx;exact⟨hi.grown hk.grown (fun r e=>by cases e),hx⟩
 case assign =>
  rintro l2 pre x X K hi hK;have hbX:bo<X.heap.size:=by obtain⟨⟨_,_,v,hs⟩,_⟩:=hi.1;exact aw (hs.blk 0 rfl)
  have H:=FH (hK _ _ (KeepsFrom.refl _ _) (KpO.of_kept (l8 (n₀:=bo+1) (by omega)) hbX (Kept.refl _ _)) hi rfl);clear hK
  gi_wp2
  exact H.out
 case body =>
  rintro l2 pre x a' X hl2-⟨⟨⟨es,hes,v,hs⟩,hlen⟩,hpx⟩ rfl;obtain⟨r,hr,-,hrf⟩:∃r,R[pre.length]?=some r∧x.1=au r∧RowF (aB wa) x.2.v r:=by
   obtain⟨z,hz⟩:=hpx;exact AC.out.at (show(inS sp L)[pre.length]?=some x by rw [←hz];simp)
  have hbx:X.heap[bp]?=some (.cells pe.cells.toArray tPr (0,0)):=hs.pool bp _ Fc.out;have xJ:=FH (oM pe.p pe X x.2.v r rfl (Ff.out.rd hs) (RdP.rd hrf.1 hs));obtain⟨x0,x1,x2,x3,x4,x5,x6,x7,x8⟩:=cu hbx;have HS:=FH hs;have HR:=FH (tC (p:=pe.p) hr);have yX:=FH hes;have yN:=FH hrf;have xU:=FH (zF.out r (FQ hr));have yg:=FH (FO.1 hr).1;clear hs hr hes hrf hbx hlen hpx
  gi_wp2_with fail
  refine⟨trivial,CallsIn.inRound l2 (callsIn_wide.2 (xJ.out.mono ?_))⟩;rintro e4 w4 ⟨rfl,hk4⟩;have xO:=FH hk4;have hs4:=HS.out.kept hk4;obtain⟨o0,of⟩:=aC (hs4.blk 0 rfl);have wO:=FH hs4;clear hk4 hs4 xJ x0 x1 x2 x3 x4 x5 x6 x7 x8;cases hb:pe.p.holds r
  ·have A2:=FH (show(R.take (pre.length+1)).filter pe.p.holds=(R.take pre.length).filter pe.p.holds by rw [HR.out,hb];simp)
   clear hb HR
   gi_wp2_with fail
   refine⟨iB xO.out _,KpO.of_kept (l8 (n₀:=bo+1) (by omega)) (aw (HS.out.blk 0 rfl)) xO.out,⟨es,?_,v,wO.out⟩,?_⟩
   ·rw [FR,Gh,A2.out];exact yX.out
   ·rw [FR,Gh];exact yg.out
  ·have A2:=FH (show(R.take (pre.length+1)).filter pe.p.holds=(R.take pre.length).filter pe.p.holds ++ [r] by rw [HR.out,hb];simp)
   clear hb HR
   gi_wp2_with fail
   have yy:=FH (rB (RdP.rd yN.out.1 wO.out.drew) xU.out);refine jU [rq 0 4,rq 1 2,(2,true,0),(3,true,0),(4,true,0),(5,true,0)] (by kernel_rfl) (by kernel_rfl) (by kernel_rfl) ?_;iterate 2 (refine qy rfl rfl fun K hK=>?_;go_simp;apply hK;clear hK K)
   refine gR rfl ?_;refine qM rfl fun K hK=>?_;go_simp;refine⟨trivial,CallsIn.inRound l2 (callsIn_wide.2 (yy.out.mono ?_))⟩;rintro e5 w5 ⟨v5,rfl,hk5,ho5,hf5⟩;obtain⟨a5,c5,rfl⟩:∃a5 c5,v5 = .slice a5 r.length c5:=by obtain⟨_,_,h,_⟩:=ho5.rd.2.2;exact⟨_,_,h⟩
   have hs5:Sat wa (aB wa) w5 (blk bo #[v] tRs::aD tW 1 v es.length (es.map RowE.v)::oR ⟨r,a5,r.length,c5⟩ :: [aY (es.map oR)]):=((wO.out.drew.own_new hk5 ho5 hf5).rot);have hk45:Kept (fun _=>False) w4 w5:=((Kept.refl _ w4).drew).trans hk5 (fun _ h=>h.elim);have hbx:=nz hs5;obtain⟨D1,hD1,hsx⟩:=hbx.sat;clear o0 of;obtain⟨o0,of⟩:=aC hbx.box;have hal:=hsx.alloc #[.slice a5 r.length c5] tW;have hrb:=bC (size:=1) (n:=1) hal.heap_blk rfl (by unfold maxLen;omega);have wT:=FH hs5;have xj:=FH (xO.out.trans hk45 (fun _ h=>h.elim));have xP:=FH hbx;have Af:=FH hD1;have xI:=FH hal.rot.swap;have zw:=FH hrb;have xe:=FH (show es.length<1000 by
    have h1:es.length≤(R.take pre.length).length:=by rw [←FZ (f:=RowE.row),yX.out];exact List.length_filter_le ..
    have h2:=AB.out;rw [F0]at h1;omega)
   have DX:=FH (show ∀u∈[Value.slice a5 r.length c5],u.oneCell'=true by intro u hu;simp at hu;subst hu;rfl);obtain⟨i0,hinf,hz0,hz1,hz2⟩:=info_parts gu;have xB:=FH (And.intro hinf (And.intro hz0 (And.intro hz1 hz2)));clear ho5 hf5 hk5 hs5 hk45 hbx hD1 hsx hal hrb yy hinf hz0 hz1 hz2;have hl5:=xe.out;refine hK _ _ ?_;clear hK K;refine wpListIn_nil ?_;apply And.intro
   ·go_simp
   refine gR rfl ?_;refine wpListIn_plain rfl fun K hK=>?_;go_simp;refine hK _ _ ?_;clear hK K;refine wpListIn_nil ?_;clear o0 of;obtain⟨o0,of⟩:=aC (xI.out.blk 1 rfl);apply And.intro
   ·go_simp
   refine gR rfl ?_;refine i9 _ rfl _ _ tRs rfl tW i0 _ 1 24 Tryz.underlying55 xB.out.1 xB.out.2.1 xB.out.2.2.1 xB.out.2.2.2 rfl _ _ _ rfl xI.out _ 1 _ rfl zw.out DX.out (by unfold maxLen;omega) (by omega) ?_;intro v2 w6 h2 h2o;refine wpListIn_nil ?_;obtain⟨ra,rc,rfl⟩:=h2.own_shape;clear o0 of;obtain⟨o0,of⟩:=aC (h2.blk 1 rfl);have H2:=FH (h2.swap.set 0 (.slice ra (es.length+1) rc));clear h2 hl5;apply And.intro
   ·go_simp
   refine gR rfl ?_;refine wpListIn_plain rfl fun K hK=>?_;go_simp;refine hK _ _ ?_;clear hK K;refine wpListIn_nil ?_;apply And.intro
   ·go_simp
   refine re ?_
   gi_wp2_with fail
   have h3:=H2.out;have hst:=rT wT.out Af.out h3;obtain⟨_,hkp,hko,_,_⟩:=xP.out.back Af.out h3;refine⟨(iB xj.out _).trans (hko.from _),(KpO.of_kept (l8 (n₀:=bo+1) (by omega)) (aw (HS.out.blk 0 rfl)) xj.out).trans hkp,⟨es ++ [⟨r,a5,r.length,c5⟩],?_,.slice ra (es.length+1) rc,?_⟩,?_⟩
   ·rw [List.map_append,FR,Gh,A2.out,yX.out];rfl
   ·have q1:=hst.front 3 rfl
    simp only [List.eraseIdx_cons_succ,List.eraseIdx_cons_zero]at q1;have q2:=q1.ungroup;have q3:=q2.perm ((((List.Perm.swap _ _ _).cons _).trans (List.Perm.swap _ _ _)).append_left (es.map oR));have e3:∀(L:List HP) (a b c:HP),L ++ [a,b,c]=(L ++ [a]) ++ [b,c]:=fun L a b c=>by simp
    rw [e3]at q3;have q5:=q3.togroup.rot;rw [FR,Gh,List.map_append,List.map_append];exact q5
   ·rw [FR,Gh];exact yg.out
 case done =>
  rintro D2 xs W hD rfl ⟨⟨es,hes,hbr⟩,-⟩ hK;have hbr2:=hbr.grown (grownBy_putObj' W D2 (.deferred none)) (fun r e=>by cases e;exact⟨Gq B6.out.size hD,_,hK,rfl⟩);obtain⟨v,hs⟩:=hbr;obtain⟨v',hs'⟩:=hbr2;obtain⟨o0,of⟩:=aC (hs.blk 0 rfl);have hvv:v'=v:=by
   have h1:=hs'.blk 0 rfl;rw [World.putObj_heap_other (show bo≠D2 by have:=By.out;omega),hs.blk 0 rfl]at h1;cases h1
   rfl
  subst hvv;have hall:es.map RowE.row=cz m pe.p sp:=by
   rw [hes,ED.out,AC.out.len,List.take_length]
  have hfit:∀x∈es,bG x.row:=fun x hx=>by
   have h1:x.row∈es.map RowE.row:=List.mem_map_of_mem hx;rw [hes]at h1;exact AC.out.fit _ (Gf (List.mem_filter.1 h1).1)
  obtain⟨D3,hle,hrows,hs3⟩:=uC hfit (HA.out.over hs'.drop);have HF:=FH (And.intro hle (And.intro (hall▸hrows) (j5 hle hs3)));obtain⟨va,vn,vc,rfl⟩:∃a n c,v' = .slice a n c:=by obtain⟨_,_,_,h,_⟩:=hrows.1;obtain⟨_,_,ao,c,h2,_⟩:=h;exact⟨ao,_,c,h2⟩
  clear hs hs' hle hrows hs3 hes hall hfit;go_wp2_with fail;refine⟨by simp,.inl ⟨_,_,rfl,run_takeDeferred hK,?_⟩⟩;exact⟨_,results_tmp rfl _ _ _,va,vn,vc,D3,rfl,HF.out.1,HF.out.2.1,HF.out.2.2⟩
 case stop =>
  rintro D c pre W _ _ h _;exact h.elim
theorem cK {D:PH}{a:Option Addr}{n c:Nat}{rs:List (List Val)}(h:RowsF D (.slice a n c) rs):n=rs.length:=by
 obtain⟨⟨_,_,_,h,_⟩,_⟩:=h;obtain⟨_,_,ao,c,h2,_⟩:=h;cases h2
 rfl
theorem ph {B w:World}{D:PH}{x o i:Nat}{X:TxM}{l:List HP}{m:aq}{pe:PredE}(sp:Spn)(hm:X.tabs[i]?=some m)(hrl:∀r∈m,r.length≤1000000)(hp:PredsAt D (.slice pe.la pe.ln pe.lc) pe.subs)(h:TxIn B w D x o X l) :
  Calls Tryz.prog 43 #[.pointer (some ⟨o,0,none⟩),.int .i64 i,.agg pe.cells.toArray,sp.v] w fun e w'=>∃(a:Option Addr) (cc:Nat) (D':PH),e = .returned (.slice a (cz m pe.p sp).length cc)∧PH.le D D'∧RowsF D' (.slice a (cz m pe.p sp).length cc) (cz m pe.p sp)∧TxIn B w' D' x o X l:=by
 obtain⟨H,hH,hs⟩:=h;refine(oE sp (O:=⟨X.cols,X.tabs⟩) hm hrl hp (jd hs)).mono ?_;rintro e w' ⟨a,n,cc,D',rfl,hle,hr,hs2⟩;have hn:=cK hr;subst hn;exact⟨a,cc,D',rfl,hle,hr,H,hH.mono hle,gA hs2⟩
theorem dp {X:TxM}{i:Nat}{m:aq}(hm:X.tabs[i]?=some m)(p:PredT)(s:Spn):X.hold (i:Int) p s=cz m p s:=by unfold TxM.hold;rw [gC hm]
def TxM.pick (X:TxM)(s:StmM):TxM×AnsM:=(X,⟨0,X.hold s.table s.pred bj,(X.hold s.table s.pred bj).length⟩)
theorem un {B w:World}{D:PH}{x o i:Nat}{X:TxM}{l:List HP}{m:aq}{e:StmE}{s:StmM}(hs:StmOk D e s)(hi:s.table=(i:Int))(hm:X.tabs[i]?=some m)(hrl:∀r∈m,r.length≤1000000)(h:TxIn B w D x o X l) :
  Calls Tryz.prog 74 #[.pointer (some ⟨x,0,none⟩),.agg e.cells.toArray] w (et B D x o l (X.pick s)):=by
 have zN:=FH (show X.pick s=(X,⟨0,cz m e.pe.p bj,(cz m e.pe.p bj).length⟩) by unfold TxM.pick;rw [hi,dp hm,hs.pred]);obtain⟨W0,hW0,h2⟩:=ej h e.cells.toArray aZ tSt aL;have xh:=FH hW0;have xJ:=FH (ph (pe:=e.pe) bj hm hrl hs.subs (h2.kept (Kept.refl (fun _=>False) W0).drew));obtain⟨t,g,og,pc,c0,d1,hpc,-⟩:=eS h2 hm;have wS:=FH h2;have xN:=FH (show e.table=(i:Int)from hs.table.trans hi);clear h hs hi hm hrl hW0 h2 d1 hpc;go_enter Tryz.func74,Tryz.ntmps74;go_upto_region 1 with fail
 rw [←xh.out];clear xh;generalize w.heap.size+1=ba at wS xJ ⊢;generalize w.heap.size=bs at wS xJ ⊢;obtain⟨x0,x2,x3,x4,x5,x6,x7,x17,x18,x19⟩:=aO (wS.out.sat.blk 1 rfl);rw [xN.out]at x2;obtain⟨z0,z1,z2,z3,z4,z5,z6,z7,z8⟩:=bR (wS.out.sat.blk 1 rfl);refine aH [rq 0 9,rq 1 9,rq 2 9,rq 3 9,rq 4 9,rq 5 9,rq 6 9,rq 7 9,rq 8 9,(9,true,0),rq 10 999] ?_;iterate 9 (refine ae rfl rfl fun K hK=>?_;go_simp;apply hK;clear hK K)
 refine af rfl ?_;refine al rfl fun K hK=>?_;go_simp;refine xJ.out.mono ?_;rintro e1 w1 ⟨ra,rc,D2,rfl,hle,hrw,hs1⟩;have wG:=FH hs1;have wU:=FH hle;have xg:=FH hrw;clear hle hrw hs1 wS xJ c0 x0 x2 x3 x4 x5 x6 x7 x17 x18 x19 z0 z1 z2 z3 z4 z5 z6 z7 z8;obtain⟨rs,hrs⟩:∃rs,cz m e.pe.p bj=rs:=⟨_,rfl⟩;rw [hrs]at xg zN ⊢;clear hrs;generalize hN:rs.length=N at *;refine hK _ _ ?_;clear hK K;refine wpList_nil ?_;apply And.intro
 ·go_simp
 refine ae rfl rfl fun K hK=>?_;go_simp;apply hK;clear hK K;refine ag ?_;go_wp2_with (refine ay rfl _ _ _ rfl aL ba rfl [.int .i64 0,.slice ra N rc,.int .i64 N] rfl aZ wG.out (by kernel_rfl) rfl (by intro u hu;simp at hu;rcases hu with rfl|rfl|rfl<;>rfl) ?_;intro w6 hs6;have wK:=FH hs6;clear hs6 wG);refine bodyPost_ret (av rfl _ _ rfl (aJ rfl (aj (wK.out.sat.blk 0 rfl)))) rfl ?_;rw [zN.out];exact⟨ra,N,rc,D2,rfl,wU.out,xg.out,wK.out.drop.drop⟩
def TxM.change (X:TxM)(s:StmM):TxM×AnsM:=X.all s.table (X.hold s.table s.pred bj) s.sets
theorem dH {m:aq}{p:PredT}{s:Spn}{r:List Val}(h:r∈cz m p s):r∈m:=(List.mem_filter.1 h).1
theorem nI {c:List Bool}{m:aq}(hI:TabI c m){p:PredT}{s:Spn}:∀r∈cz m p s,aX c r=true∧(aP m (au r)).isSome=true:=fun r hr=>⟨hI.fits r (dH hr),eD.2 ⟨r,dH hr,rfl⟩⟩
theorem gz {m:aq}{p:PredT}{s:Spn}{n:Nat}(h:m.length≤n):(cz m p s).length≤n:=Gq (List.length_filter_le ..) h
theorem pJ {B w:World}{D:PH}{x o i:Nat}{X:TxM}{l:List HP}{m:aq}{c:List Bool}{e:StmE}{s:StmM}(hs:StmOk D e s)(hi:s.table=(i:Int))(hm:X.tabs[i]?=some m)(hc:X.cols[i]?=some c)(hI:TabI c m)(hml:m.length≤200)(hrl:∀r∈m,r.length≤1000000)(hb:X.log.length+200≤10000)(h:TxIn B w D x o X l) :
  Calls Tryz.prog 75 #[.pointer (some ⟨x,0,none⟩),.agg e.cells.toArray] w (et B D x o l (X.change s)):=by
 have zN:=FH (show X.change s=X.all i (cz m e.pe.p bj) s.sets by unfold TxM.change;rw [hi,dp hm,hs.pred]);obtain⟨W0,hW0,h2⟩:=ej h e.cells.toArray aZ tSt aL;have xh:=FH hW0;have xJ:=FH (ph (pe:=e.pe) bj hm hrl hs.subs (h2.kept (Kept.refl (fun _=>False) W0).drew));obtain⟨t,g,og,pc,c0,d1,hpc,-⟩:=eS h2 hm;have wS:=FH h2;have xN:=FH (show e.table=(i:Int)from hs.table.trans hi);have yI:=FH hs.sets;have HM:=FH hm;have HC:=FH hc;have yD:=FH hI;have zp:=FH hml;have HB:=FH hb;have C2:=FH (nI (p:=e.pe.p) (s:=bj) hI);have Ag:=FH (gz (p:=e.pe.p) (s:=bj) hml);obtain⟨sa,sn,sc,hsv⟩:∃a n c,e.sets.v = .slice a n c:=⟨_,_,_,rfl⟩;have xW:=FH hsv;rw [hsv]at yI;clear h hs hi hm hrl hW0 h2 d1 hpc hc hI hml hb hsv;go_enter Tryz.func75,Tryz.ntmps75;go_upto_region 1 with fail
 rw [←xh.out];clear xh;generalize w.heap.size+1=ba at wS xJ ⊢;generalize w.heap.size=bs at wS xJ ⊢;obtain⟨x0,x2,x3,x4,x5,x6,x7,x17,x18,x19⟩:=aO (wS.out.sat.blk 1 rfl);rw [xN.out]at x2;rw [xW.out]at x7;obtain⟨z0,z1,z2,z3,z4,z5,z6,z7,z8⟩:=bR (wS.out.sat.blk 1 rfl);refine aH [rq 0 15,rq 1 15,rq 2 15,rq 3 12,rq 4 12,rq 5 12,rq 6 12,rq 7 12,rq 8 12,rq 9 12,rq 10 12,rq 11 12,rq 13 15,rq 14 15,(12,true,0),(15,true,0),(16,true,0)] ?_;iterate 14 (refine ae rfl rfl fun K hK=>?_;go_simp;apply hK;clear hK K)
 refine af rfl ?_;refine al rfl fun K hK=>?_;go_simp;refine xJ.out.mono ?_;rintro e1 w1 ⟨ra,rc,D2,rfl,hle,hrw,hs1⟩;have wG:=FH hs1;have wU:=FH hle;have xg:=FH hrw;clear hle hrw hs1 wS xJ c0 x0 x2 x3 x4 x5 x6 x7 x17 x18 x19 z0 z1 z2 z3 z4 z5 z6 z7 z8;obtain⟨rs,hrs⟩:∃rs,cz m e.pe.p bj=rs:=⟨_,rfl⟩;rw [hrs]at xg zN C2 Ag ⊢;clear hrs;have xI:=FH (qu HM.out HC.out yD.out zp.out C2.out xg.out (yI.out.mono wU.out) Ag.out (by have h1:=HB.out;have h2:=Ag.out;omega) wG.out);generalize hN:rs.length=N at *;obtain⟨x0,x2,x3,x4,x5,x6,x7,x17,x18,x19⟩:=aO (wG.out.sat.blk 1 rfl);rw [xN.out]at x2;rw [xW.out]at x7;obtain⟨z0,z1,z2,z3,z4,z5,z6,z7,z8⟩:=bR (wG.out.sat.blk 1 rfl);obtain⟨t,g,og,pc,c0,d1,hpc,-⟩:=eS wG.out HM.out;clear d1 hpc;refine hK _ _ ?_;clear hK K;refine wpList_nil ?_;apply And.intro
 ·go_simp
 refine af rfl ?_;refine al rfl fun K hK=>?_;go_simp;refine xI.out.mono ?_;rintro e2 w2 ⟨qa,qn,qc,D3,rfl,hle3,hrw3,hs3⟩;have wI:=FH hs3;have xt:=FH (wU.out.trans hle3);have AU:=FH hrw3;clear hle3 hrw3 hs3 xI wG c0 x0 x2 x3 x4 x5 x6 x7 x17 x18 x19 z0 z1 z2 z3 z4 z5 z6 z7 z8;obtain⟨x0,x2,x3,x4,x5,x6,x7,x17,x18,x19⟩:=aO (wI.out.sat.blk 1 rfl);rw [xN.out]at x2;rw [xW.out]at x7;obtain⟨z0,z1,z2,z3,z4,z5,z6,z7,z8⟩:=bR (wI.out.sat.blk 1 rfl);obtain⟨c0,-⟩:=dj (wI.out.choose_spec.2);refine hK _ _ ?_;clear hK K;refine wpList_nil ?_;apply And.intro
 ·go_simp
 refine af rfl ?_;refine ay rfl _ _ _ rfl aL ba rfl [_,.slice qa qn qc,_] rfl aZ wI.out (by kernel_rfl) rfl (by intro u hu;simp at hu;rcases hu with rfl|rfl|rfl<;>rfl) ?_;intro w6 hs6;refine wpList_nil ?_;have wK:=FH hs6;clear hs6 wI c0 x0 x2 x3 x4 x5 x6 x7 x17 x18 x19 z0 z1 z2 z3 z4 z5 z6 z7 z8;obtain⟨x0,x2,x3,x4,x5,x6,x7,x17,x18,x19⟩:=aO (wK.out.sat.blk 1 rfl);rw [xN.out]at x2;rw [xW.out]at x7;obtain⟨z0,z1,z2,z3,z4,z5,z6,z7,z8⟩:=bR (wK.out.sat.blk 1 rfl);obtain⟨c0,-⟩:=dj (wK.out.choose_spec.2);apply And.intro
 ·go_simp
 refine ag ?_;go_wp2_with fail;refine bodyPost_ret (av rfl _ _ rfl (aJ rfl (aj (wK.out.sat.blk 0 rfl)))) rfl ?_;rw [zN.out];exact⟨qa,qn,qc,D3,rfl,xt.out,AU.out,wK.out.drop.drop⟩
def TxM.clear (X:TxM)(s:StmM):TxM×AnsM:=((X.hold s.table s.pred bj).foldl (fun y r=>y.out s.table (au r)) X,fL (X.hold s.table s.pred bj).length)
theorem pL {X:TxM}{i:Nat}{m:aq}(hm:X.tabs[i]?=some m):∀(n:Nat) (rs:aq),n≤rs.length→∃m',((rs.take n).foldl (fun y r=>y.out (i:Int) (au r)) X).tabs[i]?=some m'∧((rs.take n).foldl (fun y r=>y.out (i:Int) (au r)) X).log.length=X.log.length+n
 | 0,_,_=>⟨m,hm,rfl⟩
 | n+1,rs,hn=>by
  obtain⟨m',h1,h2⟩:=pL hm n rs (by omega);obtain⟨r,hr⟩:∃r,rs[n]?=some r:=⟨rs[n]'(by omega),FP _⟩;rw [F3,hr];simp only [Option.toList_some,List.foldl_append,List.foldl_cons,List.foldl_nil];generalize (rs.take n).foldl (fun y r=>y.out (i:Int) (au r)) X=Y at h1 h2 ⊢;have hlt:=(FO.1 h1).1;refine⟨cR m' (au r),?_,?_⟩
  ·show(Y.tabs.set (i:Int).toNat (cR (Y.tab i) _))[i]?=_
   rw [F6,FX hlt,cE h1]
  ·show(Y.log ++ [_]).length=_
   rw [FR,h2];rfl
theorem qX {B w:World}{D:PH}{x o i:Nat}{X:TxM}{l:List HP}{m:aq}{c:List Bool}{e:StmE}{s:StmM}(hs:StmOk D e s)(hi:s.table=(i:Int))(hm:X.tabs[i]?=some m)(hI:TabI c m)(hml:m.length≤200)(hrl:∀r∈m,r.length≤1000000)(hb:X.log.length+200≤10000)(h:TxIn B w D x o X l) :
  Calls Tryz.prog 76 #[.pointer (some ⟨x,0,none⟩),.agg e.cells.toArray] w (et B D x o l (X.clear s)):=by
 have zN:=FH (show X.clear s=((cz m e.pe.p bj).foldl (fun y r=>y.out i (au r)) X,fL (cz m e.pe.p bj).length) by unfold TxM.clear;rw [hi,dp hm,hs.pred]);obtain⟨W0,hW0,h2⟩:=ej h e.cells.toArray aZ tSt aL;have xh:=FH hW0;have xJ:=FH (ph (pe:=e.pe) bj hm hrl hs.subs (h2.kept (Kept.refl (fun _=>False) W0).drew));obtain⟨t,g,og,pc,c0,d1,hpc,-⟩:=eS h2 hm;have wS:=FH h2;have xN:=FH (show e.table=(i:Int)from hs.table.trans hi);have HM:=FH hm;have yD:=FH hI;have HB:=FH hb;have C2:=FH (nI (p:=e.pe.p) (s:=bj) hI);have Ag:=FH (gz (p:=e.pe.p) (s:=bj) hml);clear h hs hi hm hrl hW0 h2 d1 hpc hI hml hb;go_enter Tryz.func76,Tryz.ntmps76;go_upto_region 1 with fail
 rw [←xh.out];clear xh;generalize w.heap.size+1=ba at wS xJ ⊢;generalize w.heap.size=bs at wS xJ ⊢;obtain⟨x0,x2,x3,x4,x5,x6,x7,x17,x18,x19⟩:=aO (wS.out.sat.blk 1 rfl);rw [xN.out]at x2;obtain⟨z0,z1,z2,z3,z4,z5,z6,z7,z8⟩:=bR (wS.out.sat.blk 1 rfl);refine aH [rq 0 9,rq 1 9,rq 2 9,rq 3 9,rq 4 9,rq 5 9,rq 6 9,rq 7 9,rq 8 9,(9,true,0),rq 10 999] ?_;iterate 9 (refine ae rfl rfl fun K hK=>?_;go_simp;apply hK;clear hK K)
 refine af rfl ?_;refine al rfl fun K hK=>?_;go_simp;refine xJ.out.mono ?_;rintro e1 w1 ⟨ra,rc,D2,rfl,hle,hrw,hs1⟩;have wG:=FH hs1;have wU:=FH hle;clear hle hs1 wS xJ c0 x0 x2 x3 x4 x5 x6 x7 x17 x18 x19 z0 z1 z2 z3 z4 z5 z6 z7 z8;obtain⟨rs,hrs⟩:∃rs,cz m e.pe.p bj=rs:=⟨_,rfl⟩;rw [hrs]at hrw zN C2 Ag ⊢;clear hrs;obtain⟨⟨us,hu1,hu2,hu3,hu4⟩,hfit⟩:=hrw;have HU:=FH (And.intro hu1 (And.intro hu2 hu4));generalize hN:rs.length=N at *;have HN:=FH hN;have zo:=FH hu3;have hnb:N≤200:=Ag.out;clear hu1 hu2 hu3 hu4 hfit hN;refine hK _ _ ?_;clear hK K;refine wpList_nil ?_;apply And.intro
 ·go_simp
 refine ae rfl rfl fun K hK=>?_;go_simp;apply hK;clear hK K;refine ag ?_;go_wp2_with fail
 go_loopw [20] (fun idx wr=>∃(k:Nat),idx = .int .i64 k∧k≤N∧TxIn B wr D2 x o ((rs.take k).foldl (fun y r=>y.out (i:Int) (au r)) X) (blk ba aZ aL::blk bs e.cells.toArray tSt::l)) (fun idx _=>N-(intOf idx).toNat)
 case atStart=>exact⟨0,rfl,Gp _,wG.out⟩
 case round =>
  obtain⟨k,rfl,hk,htx⟩:=hrel;have xE:=FH htx;clear htx wG;by_cases hlt2:k<N
  ·obtain⟨r,hr⟩:∃r,rs[k]?=some r:=⟨rs[k]'(by rw [HN.out];exact hlt2),FP _⟩
   obtain⟨u,hu⟩:∃u,us[k]?=some u:=⟨us[k]'(by rw [HU.out.1];exact hlt2),FP _⟩;obtain⟨m',hp1,hp2⟩:=pL HM.out k rs (by rw [HN.out];exact hk);obtain⟨k0,h0,hk0,hk1,-⟩:=cO (C2.out r (FQ hr)).1;have C3:=FH (qQ (k:=k0) hp1 hk1 (by rw [hp2];have:=HB.out;omega) (xE.out.kept (Kept.refl (fun _=>False) _).drew));have ym:=FH (show(rs.take (k+1)).foldl (fun y r=>y.out (i:Int) (au r)) X=((rs.take k).foldl (fun y r=>y.out (i:Int) (au r)) X).out (i:Int) k0 by rw [F3,hr,←hk0];simp);have hrd:=RdP.rd (HU.out.2.2 k u r hu hr) xE.out.sat;obtain⟨ao,rcc,rfl⟩:∃ao rc,u = .slice ao r.length rc:=by obtain⟨_,_,ao,rc,h,_⟩:=hrd;exact⟨ao,rc,h⟩
   obtain⟨rg,rog,rfl⟩:=cT hrd h0 rfl;obtain⟨y0,y1,y2⟩:=aE (h:=0) hrd h0;rw [Nat.zero_mul,Nat.add_zero]at y0 y1 y2;have hlen2:0<r.length:=(FO.1 h0).1;have hlen:(0:Int)<(r.length:Int):=by omega
   obtain⟨fg,fo,rfl,hcu⟩:∃fg fo,ra=some ⟨fg,fo,none⟩∧wr.cell? ⟨fg,fo+k,none⟩=some (.slice (some ⟨rg,rog,none⟩) r.length rcc):=by
    obtain⟨_,_,ao,cap,hv,_,_,_,hcell⟩:=zo.out.rd xE.out.sat;cases hv;rcases hcell with h0|⟨g,og,hg,hcc⟩
    ·omega
    ·exact⟨g,og,hg,hcc k _ hu⟩
   have hki:(k:Int)<(N:Int):=by omega
   obtain⟨x0,x2,x3,x4,x5,x6,x7,x17,x18,x19⟩:=aO (xE.out.sat.blk 1 rfl);rw [xN.out]at x2;generalize r.length=RN at *;clear hu hr hp1 hp2 h0 hk0 hk1 hrd;go_upto_region 5 with fail
   refine aH [rq 0 6,rq 1 6,rq 2 6,rq 3 6,rq 4 6,rq 5 6,(6,true,0)] ?_;iterate 6 (refine ae rfl rfl fun K hK=>?_;go_simp;apply hK;clear hK K)
   refine af rfl ?_;refine al rfl fun K hK=>?_;go_simp;refine C3.out.mono ?_;rintro e2 w2 ⟨rfl,htx5⟩;have xC:=FH htx5;clear htx5 C3 xE hcu y0 y1 y2 x0 x2 x3 x4 x5 x6 x7 x17 x18 x19;refine hK _ _ ?_;clear hK K;refine wpList_nil ?_;apply And.intro
   ·go_simp
   refine ag ?_;go_wp2_with fail;go_roundw
   case rel=>exact⟨k+1,by go_num,by omega,by rw [ym.out];exact xC.out⟩
   case measure=>simp [intOf];omega
  ·obtain rfl:k=N:=by omega
   have hki:¬((k:Int)<(k:Int)):=by omega
   have ym:=FH (show TxIn B _ D2 x o (rs.foldl (fun y r=>y.out (i:Int) (au r)) X) (blk ba aZ aL::blk bs e.cells.toArray tSt::l)from FS (Nat.le_of_eq HN.out)▸xE.out);clear xE;go_wp2_with (refine ay rfl _ _ _ rfl aL ba rfl [.int .i64 0,.slice none 0 0,.int .i64 (k:Int)] rfl aZ ym.out (by kernel_rfl) rfl (by intro u hu;simp at hu;rcases hu with rfl|rfl|rfl<;>rfl) ?_;intro w6 hs6;have wK:=FH hs6;clear hs6 ym);refine bodyPost_ret (av rfl _ _ rfl (aJ rfl (aj (wK.out.sat.blk 0 rfl)))) rfl ?_;rw [zN.out];exact⟨none,0,0,D2,rfl,wU.out,RowsF.nil _,wK.out.drop.drop⟩
theorem lay_in {c R vs:List Value}{k:Nat}(h:k+vs.length≤c.length):lay (c++R) k vs=lay c k vs++R:=by
 unfold lay;rw [F9 (by omega),List.drop_append_of_le_length (by omega),FU,FU,FU]
theorem jR (o:Nat)(lv:Value){sv:List Int}{cs:List CurE}(hs:sv.length=4){n k:Nat}{c c':CurE}(hn:cs[n]?=some c){vs:List Value}(hk:k+vs.length≤27)(hc:lay c.cells k vs=c'.cells) :
  lay (aN o lv sv cs).toList (6+n*27+k) vs=(aN o lv sv (cs.set n c')).toList:=by
 have hlt:=(FO.1 hn).1;have e:∀cs:List CurE,(aN o lv sv cs).toList=((.pointer (some ⟨o,0,none⟩)::lv::sv.map (Value.int .i64))++cs.flatMap CurE.cells):=fun cs=>rfl;have hcs:cs=cs.take n++c::cs.drop (n+1):=by
  rw [←(FO.1 hn).2];simp
 rw [e,e,show 6+n*27+k=(Value.pointer (some ⟨o,0,none⟩)::lv::sv.map (Value.int .i64)).length+(n*27+k) by simp [hs];omega,ll,List.set_eq_take_append_cons_drop,if_pos hlt]
 congr 1
 have hl:((cs.take n).flatMap CurE.cells).length=n*27:=by rw [cH CurE.len,F0];congr 1;omega
 conv=>lhs;rw [hcs]
 rw [FT,FT,F1,F1,←hl,ll,lay_in (by rw [CurE.len];exact hk),hc]
theorem lay_one (L:List Value)(j:Nat)(v:Value)(h:j<L.length):lay L j [v]=L.set j v:=by
 unfold lay;rw [List.set_eq_take_append_cons_drop,if_pos h];simp
theorem wv {w:World}{x off:Nat}{c:CurE}(h:∀j v,c.cells[j]?=some v→w.cell? ⟨x,off+j,none⟩=some v) :
    w.cell? ⟨x,off,none⟩=some (.bool c.opn)∧w.cell? ⟨x,off+2,none⟩=some (.bool c.stands)∧w.cell? ⟨x,off+3,none⟩=some (.int .i64 c.table) ∧
    (w.cell? ⟨x,off+4,none⟩=some (.int .i64 c.pe.op)∧w.cell? ⟨x,off+5,none⟩=some (.int .i64 c.pe.col)∧w.cell? ⟨x,off+6,none⟩=some (.bool c.pe.v.t)∧w.cell? ⟨x,off+7,none⟩=some (.int .i64 c.pe.v.n)∧w.cell? ⟨x,off+8,none⟩=some (.string c.pe.v.s) ∧
      w.cell? ⟨x,off+9,none⟩=some (.bool c.pe.w.t)∧w.cell? ⟨x,off+10,none⟩=some (.int .i64 c.pe.w.n)∧w.cell? ⟨x,off+11,none⟩=some (.string c.pe.w.s)∧w.cell? ⟨x,off+12,none⟩=some (.slice c.pe.la c.pe.ln c.pe.lc)) ∧
    (w.cell? ⟨x,off+13,none⟩=some (.bool c.frm.no)∧w.cell? ⟨x,off+14,none⟩=some (.bool c.frm.hasLo)∧w.cell? ⟨x,off+15,none⟩=some (.bool c.frm.openLo)∧w.cell? ⟨x,off+16,none⟩=some (.bool c.frm.lo.t)∧w.cell? ⟨x,off+17,none⟩=some (.int .i64 c.frm.lo.n)∧w.cell? ⟨x,off+18,none⟩=some (.string c.frm.lo.s) ∧
      w.cell? ⟨x,off+19,none⟩=some (.bool c.frm.hasHi)∧w.cell? ⟨x,off+20,none⟩=some (.bool c.frm.openHi)∧w.cell? ⟨x,off+21,none⟩=some (.bool c.frm.hi.t)∧w.cell? ⟨x,off+22,none⟩=some (.int .i64 c.frm.hi.n)∧w.cell? ⟨x,off+23,none⟩=some (.string c.frm.hi.s)) ∧
    (w.cell? ⟨x,off+24,none⟩=some (.bool c.key.t)∧w.cell? ⟨x,off+25,none⟩=some (.int .i64 c.key.n)∧w.cell? ⟨x,off+26,none⟩=some (.string c.key.s)) :=
  ⟨h 0 _ rfl,h 2 _ rfl,h 3 _ rfl,⟨h 4 _ rfl,h 5 _ rfl,h 6 _ rfl,h 7 _ rfl,h 8 _ rfl,h 9 _ rfl,h 10 _ rfl,h 11 _ rfl,h 12 _ rfl⟩,
   ⟨h 13 _ rfl,h 14 _ rfl,h 15 _ rfl,h 16 _ rfl,h 17 _ rfl,h 18 _ rfl,h 19 _ rfl,h 20 _ rfl,h 21 _ rfl,h 22 _ rfl,h 23 _ rfl⟩,h 24 _ rfl,h 25 _ rfl,h 26 _ rfl⟩
section
variable {B w : World} {D D' : PH} {x o n k : Nat} {X : TxM} {H : TxH} {l : List HP} {c c' : CurE}
theorem pj (h:Sat B D' w (txL D x o X H++l))(hsv:X.saves.length=4)(hn:H.cs[n]?=some c):(∀j v,c.cells[j]?=some v→w.cell? ⟨x,6+n*27+j,none⟩=some v)∧∀j,w.frozen? ⟨x,j,none⟩=false:=by
 have hb:=h.blk 0 rfl;refine⟨fun j v hj=>?_,fun j=>by simp [World.frozen?,hb]⟩;simp only [World.cell?,hb];rw [Nat.add_assoc];exact iF o H.lv hsv hn hj
theorem kK (o:Nat)(lv:Value){sv:List Int}(cs:List CurE)(hs:sv.length=4):(aN o lv sv cs).toList.length=6+cs.length*27:=by
 show((.pointer (some ⟨o,0,none⟩)::lv::(sv.map (Value.int .i64)++cs.flatMap CurE.cells)):List Value).length=_;rw [List.length_cons,List.length_cons,FR,FZ,hs,cH CurE.len];omega
theorem sm (h:Sat B D' w (txL D x o X H++l))(hsv:X.saves.length=4)(hn:H.cs[n]?=some c)(hk:k+1≤27)(v:Value)(hc:lay c.cells k [v]=c'.cells) :
  Sat B D' (w.setCell ⟨x,6+n*27+k,none⟩ v) (txL D x o X ⟨H.lv,H.es,H.cs.set n c'⟩++l):=by
 have hlt:=(FO.1 hn).1;have h1:=jR o H.lv hsv hn (vs:=[v]) hk hc;have h2:6+n*27+k<(aN o H.lv X.saves H.cs).toList.length:=by rw [kK o H.lv H.cs hsv];omega
 rw [lay_one _ _ _ h2]at h1;have h3:(aN o H.lv X.saves H.cs).setIfInBounds (6+n*27+k) v=aN o H.lv X.saves (H.cs.set n c'):=by
  rw [←Array.toList_inj,Array.toList_setIfInBounds];exact h1
 show Sat B D' _ (blk x (aN o H.lv X.saves (H.cs.set n c')) tTx::_);rw [←h3];exact Sat.set h _ v
theorem fQ {P:Program}{ops:Array Oper}{rest:List Oper}{oo:Oper}{a:Act}{Q:Exit→Act→World→Prop}(hgd:oo.guard=none)(ty:TypeId)(xo yo:Operand)(ho:oo.op = .store ty xo yo)(off:Nat)(hx:a.eval xo = .pointer (some ⟨x,off,none⟩))(hoff:off=6+n*27+k)(vs:List Value)(hy:a.eval yo = .agg vs.toArray)
  (hs:Sat B D' w (txL D x o X H++l)) (hsv:X.saves.length=4) (hn:H.cs[n]?=some c) (hk:k+vs.length≤27) (hc:lay c.cells k vs=c'.cells) (h1:∀u∈vs,u.oneCell'=true) (hi:(P.info? ty).map (·.size)=some vs.length)
  (h:∀w',Sat B D' w' (txL D x o X ⟨H.lv,H.es,H.cs.set n c'⟩++l)→wpList P ops Q rest (a.put oo.dst undef) w'):wpList P ops Q (oo::rest) a w:=by
 subst hoff;have hlt:=(FO.1 hn).1;refine cZ hgd ty xo yo ho tTx x _ hx vs hy (aN o H.lv X.saves H.cs).toList (by rw [Array.toArray_toList];exact hs) hi (by rw [kK o H.lv H.cs hsv];omega) h1 (fun w' hs'=>h w' ?_);rw [jR o H.lv hsv hn hk hc,Array.toArray_toList]at hs';exact hs'
end
theorem j7 {X:TxM}{k:Int}{m:CurM}{i:Nat}{mt:aq}(hcm:X.cur k=m)(hop:m.opn=true)(hti:m.table=(i:Int))(htab:X.tabs[i]?=some mt)(hr:cz mt m.p m.frm = []):X.fetch k=(X.setCur k { m with stands:=false },bJ 162):=by
 have h1:X.hold m.table m.p m.frm = []:=by rw [hti,dp htab,hr]
 unfold TxM.fetch;rw [hcm,if_neg (by rw [hop];decide),h1]
theorem jn {X:TxM}{k:Int}{m:CurM}{i:Nat}{mt rs:aq}{r:List Val}(hcm:X.cur k=m)(hop:m.opn=true)(hti:m.table=(i:Int))(htab:X.tabs[i]?=some mt)(hr:cz mt m.p m.frm=r::rs):X.fetch k=(X.setCur k { m with stands:=true,key:=au r,frm:=⟨false,true,true,au r,false,false,default⟩ },⟨0,[r],0⟩):=by
 have h1:X.hold m.table m.p m.frm=r::rs:=by rw [hti,dp htab,hr]
 unfold TxM.fetch;rw [hcm,if_neg (by rw [hop];decide),h1]
theorem RdP.one {D:PH}{ao:Option Addr}{N cap:Nat}{us:List Value}{u:Value}(h:RdP D 1 (.slice ao N cap) N us)(hu:us[0]?=some u)(hN:0<N):RdP D 1 (.slice ao 1 1) 1 [u]:=by
 obtain⟨h1,h2,ao',cap',h3,h4,h5,h6,h7⟩:=h;cases h3;refine⟨rfl,by unfold maxLen;omega,ao,1,rfl,Gn _,by unfold maxLen;omega,fun h=>absurd (h6 h) (by omega),?_⟩;rcases h7 with h7|⟨g,o,rfl,cs,t,fr,h8,h9⟩
 ·omega
 ·refine .inr ⟨g,o,rfl,cs,t,fr,h8,fun j v hv=>?_⟩
  cases j with
  | zero=>simp at hv;subst hv;exact h9 0 _ hu
  | succ j=>simp at hv
theorem RowsF.head {D:PH}{ao:Option Addr}{N cap:Nat}{us:List Value}{u:Value}{r:List Val}(h:RdP D 1 (.slice ao N cap) N us)(hu:us[0]?=some u)(hN:0<N)(hr:wl D u r)(hf:bG r)(h1:u.oneCell'=true):RowsF D (.slice ao 1 1) [r]:=by
 refine⟨⟨[u],rfl,by intro v hv;simp at hv;subst hv;exact h1,h.one hu hN,fun j v q hv hq=>?_⟩,by intro q hq;simp at hq;subst hq;exact hf⟩;cases j with
 | zero=>simp at hv hq;subst hv hq;exact hr
 | succ j=>simp at hv
theorem rH {B w:World}{D:PH}{x o n:Nat}{X:TxM}{l:List HP}{e:StmE}{s:StmM}{m:CurM}(hs:StmOk D e s)(hi:s.cursor=(n:Int))(hn:n<3)(hm:X.curs[n]?=some m)
  (hcur:m.opn=true→∃i mt,m.table=((i:Nat):Int)∧X.tabs[i]?=some mt∧(∀r∈mt,0<r.length∧r.length≤1000000)) (h:TxIn B w D x o X l) :
  Calls Tryz.prog 78 #[.pointer (some ⟨x,0,none⟩),.agg e.cells.toArray] w (et B D x o l (X.fetch s.cursor)):=by
 obtain⟨W0,hW0,h2⟩:=ej h e.cells.toArray aZ tSt aL;have xh:=FH hW0;obtain⟨H,hH,hsat⟩:=h2;have hln:n<H.cs.length:=by rw [hH.curs.len];exact(FO.1 hm).1
 obtain⟨c,hc⟩:∃c,H.cs[n]?=some c:=⟨H.cs[n],FP hln⟩;obtain⟨m',hm',hok⟩:=hH.curs.get hc;rw [hm]at hm';cases hm';have HH:=FH hH;have HC:=FH hc;have yn:=FH hok;have xW:=FH hH.saves;have wS:=FH hsat;have Aa:=FH (show e.cursor=(n:Int)from hs.cursor.trans hi);have yA:=FH (show X.cur s.cursor=m by rw [hi];exact py hm);have BA:=FH hcur;have BC:=FH hi;have hn3:(n:Int)<3:=by omega
 clear h hs hi hW0 hH hsat hln hc hok hm hcur hn;go_enter Tryz.func78,Tryz.ntmps78;go_upto_region 1 with fail
 rw [←xh.out];clear xh;generalize w.heap.size+1=ba at wS ⊢;generalize w.heap.size=bs at wS ⊢;obtain⟨x0,x2,x3,x4,x5,x6,x7,x17,x18,x19⟩:=aO (wS.out.blk 4 rfl);rw [Aa.out]at x18;refine aH [rq 0 999,rq 1 999,rq 2 999,rq 3 999,rq 4 999,rq 5 999,rq 6 999] ?_;iterate 7 (refine ae rfl rfl fun K hK=>?_;go_simp;apply hK;clear hK K)
 refine ag ?_;have wG:=FH (wS.out.drew);clear wS x0 x2 x3 x4 x5 x6 x7 x17 x18 x19;generalize W0.drew=W1 at wG ⊢;obtain⟨hcc,cf⟩:=pj wG.out xW.out HC.out;obtain⟨q0,-,q3,⟨q4,q5,q6,q7,q8,q9,q10,q11,q12⟩,⟨q13,q14,q15,q16,q17,q18,q19,q20,q21,q22,q23⟩,-⟩:=wv hcc;rw [yn.out.1]at q0;clear hcc cf;cases hop:m.opn with
 | false =>
  rw [hop]at q0;have HE:=FH (show X.fetch s.cursor=(X,bJ 161) by unfold TxM.fetch;rw [yA.out,hop];rfl);have HT:=FH (show TxIn B W1 D x o X (blk ba aZ aL::blk bs e.cells.toArray tSt::l)from⟨H,HH.out,wG.out⟩);clear hop wG;go_wp2_with (refine ay rfl _ _ _ rfl aL ba rfl [.int .i64 161,.slice none 0 0,.int .i64 0] rfl aZ HT.out (by kernel_rfl) rfl (by intro u hu;simp at hu;rcases hu with rfl|rfl|rfl<;>rfl) ?_;intro w6 hs6;have wK:=FH hs6;clear hs6 HT);refine bodyPost_ret (av rfl _ _ rfl (aJ rfl (aj (wK.out.sat.blk 0 rfl)))) rfl ?_;rw [HE.out];exact⟨none,0,0,D,rfl,PH.le.refl _,RowsF.nil _,wK.out.drop.drop⟩
 | true =>
  obtain⟨i,mt,hti,htab,hrl⟩:=BA.out hop;rw [hop]at q0;rw [yn.out.2.2.2.1,hti]at q3;have zb:=FH hop;have yD:=FH hti;have xN:=FH htab;have Bj:=FH hrl;have xJ:=FH (oE (pe:=c.pe) c.frm (O:=⟨X.cols,X.tabs⟩) htab (fun r hr=>(hrl r hr).2) yn.out.2.2.2.2.2.2.2 (jd wG.out.drew));obtain⟨c0,-,-⟩:=dj wG.out;clear hop hti htab hrl;go_upto_region 4 with fail
  refine aH [rq 0 16,rq 1 16,rq 2 16,rq 3 16,rq 4 16,rq 5 16,rq 6 16,rq 7 16,rq 8 16,rq 9 16,rq 10 16,rq 11 16,rq 12 16,rq 13 16,rq 14 16,rq 15 16,(16,true,0),rq 17 999] ?_;iterate 16 (refine ae rfl rfl fun K hK=>?_;go_simp;apply hK;clear hK K)
  refine af rfl ?_;refine al rfl fun K hK=>?_;go_simp;refine xJ.out.mono ?_;rintro e1 w1 ⟨ra,rn,rc,D2,rfl,hle,hrw,hs2⟩;have hnn:=cK hrw;subst hnn;have wJ:=FH (gA hs2);have wU:=FH hle;have xg:=FH hrw;have A8:=FH (HH.out.mono hle);rw [yn.out.2.2.2.2.1,yn.out.2.2.2.2.2.1]at xg ⊢;clear hs2 hle hrw xJ wG c0 q0 q3 q4 q5 q6 q7 q8 q9 q10 q11 q12 q13 q14 q15 q16 q17 q18 q19 q20 q21 q22 q23;obtain⟨hcc,cf⟩:=pj wJ.out xW.out HC.out;obtain⟨q0,q2,q3,⟨q4,q5,q6,q7,q8,q9,q10,q11,q12⟩,⟨q13,q14,q15,q16,q17,q18,q19,q20,q21,q22,q23⟩,-⟩:=wv hcc;obtain⟨c0,-,-⟩:=dj wJ.out;clear hcc;refine hK _ _ ?_;clear hK K;refine wpList_nil ?_;apply And.intro
  ·go_simp
  refine ae rfl rfl fun K hK=>?_;go_simp;apply hK;clear hK K;refine ag ?_;cases hrs:cz mt m.p m.frm with
  | nil =>
   have As:=FH (show X.fetch s.cursor=({ X with curs:=X.curs.set n { m with stands:=false } },bJ 162) by rw [j7 yA.out zb.out yD.out xN.out hrs,BC.out];rfl);have wI:=FH (show TxIn B _ D2 x o { X with curs:=X.curs.set n { m with stands:=false } } (blk ba aZ aL::blk bs e.cells.toArray tSt::l)from⟨⟨H.lv,H.es,H.cs.set n { c with stands:=false }⟩,⟨A8.out.log,A8.out.curs.set (a:={ c with stands:=false }) (b:={ m with stands:=false }) ⟨yn.out.1,yn.out.2.1,rfl,yn.out.2.2.2.1,yn.out.2.2.2.2.1,yn.out.2.2.2.2.2.1,yn.out.2.2.2.2.2.2.1,yn.out.2.2.2.2.2.2.2.mono wU.out⟩ n,A8.out.saves,by rw [FV];exact A8.out.three,A8.out.small⟩,sm (k:=2) (c':={ c with stands:=false }) wJ.out xW.out HC.out (by decide) (.bool false) rfl⟩);clear hrs xg;rw [List.length_nil];go_wp2_with (refine ay rfl _ _ _ rfl aL ba rfl [.int .i64 162,.slice none 0 0,.int .i64 0] rfl aZ wI.out (by kernel_rfl) rfl (by intro u hu;simp at hu;rcases hu with rfl|rfl|rfl<;>rfl) ?_;intro w6 hs6;have wK:=FH hs6;clear hs6 wI);refine bodyPost_ret (av rfl _ _ rfl (aJ rfl (aj (wK.out.sat.blk 0 rfl)))) rfl ?_;rw [As.out];exact⟨none,0,0,D2,rfl,wU.out,RowsF.nil _,wK.out.drop.drop⟩
  | cons r rs =>
   obtain⟨i0,htab0,hrl0⟩:∃u,cz mt m.p m.frm=r::rs∧r∈mt:=⟨(),hrs,dH (by rw [hrs];exact Gc ..)⟩;have hpos:=(Bj.out r hrl0).1;obtain⟨k,hk⟩:∃k,r[0]?=some k:=⟨r[0],FP _⟩;have hkr:au r=k:=by unfold au;rw [←List.head?_eq_getElem?]at hk;cases r with|nil=>cases hk|cons a t=>simp at hk;subst hk;rfl
   have As:=FH (show X.fetch s.cursor=({ X with curs:=X.curs.set n { m with stands:=true,key:=k,frm:=⟨false,true,true,k,false,false,default⟩ } },⟨0,[r],0⟩) by rw [jn yA.out zb.out yD.out xN.out hrs,BC.out,hkr];rfl);have wI:=FH (sm (k:=2) (c':={ c with stands:=true }) wJ.out xW.out HC.out (by decide) (.bool true) rfl);rw [hrs]at xg;obtain⟨⟨us,hu1,hu2,hu3,hu4⟩,hfit⟩:=xg.out;obtain⟨N,hN⟩:∃N,(r::rs).length=N:=⟨_,rfl⟩;have hNp:(0:Int)<(N:Int):=by rw [←hN,List.length_cons];omega
   have hNp2:0<N:=by omega
   rw [hN]at hu3 ⊢;obtain⟨u,hu⟩:∃u,us[0]?=some u:=⟨us[0]'(by rw [hu1,List.length_cons];omega),FP _⟩;have HU:=FH hu;have zo:=FH hu3;have wQ:=FH (hu4 0 u r hu rfl);have yN:=FH (hfit r (Gc ..));have yG:=FH hk;have yV:=FH hN;have hpos2:(0:Int)<(r.length:Int):=by omega
   clear hrs xg hu1 hu2 hu3 hu4 hfit hu hk hkr hrl0 htab0 hN hpos;go_upto_region 6 with fail
   go_upto_region 8 with fail
   obtain⟨W3,hW3⟩:∃W,W=w1.setCell ⟨x,6+n*27+2,none⟩ (.bool true):=⟨_,rfl⟩;rw [←hW3]at wI ⊢;clear hW3 wJ cf c0 q0 q2 q3 q4 q5 q6 q7 q8 q9 q10 q11 q12 q13 q14 q15 q16 q17 q18 q19 q20 q21 q22 q23;obtain⟨ao,rcc,rfl⟩:∃ao rc,u = .slice ao r.length rc:=by obtain⟨_,_,ao,rc,h,_⟩:=wQ.out;exact⟨ao,rc,h⟩
   obtain⟨rg,rog,rfl⟩:=cT (RdP.rd wQ.out wI.out) yG.out rfl;obtain⟨y0,y1,y2⟩:=aE (h:=0) (RdP.rd wQ.out wI.out) yG.out;rw [Nat.zero_mul,Nat.add_zero]at y0 y1 y2;have DY:=FH (RowsF.head zo.out HU.out hNp2 wQ.out yN.out rfl);obtain⟨fg,fo,rfl,hcu,hrc⟩:∃fg fo,ra=some ⟨fg,fo,none⟩∧W3.cell? ⟨fg,fo,none⟩=some (.slice (some ⟨rg,rog,none⟩) r.length rcc)∧N≤rc:=by
    obtain⟨_,_,ao,cap,hv,hrc,_,_,hcell⟩:=zo.out.rd wI.out;cases hv;rcases hcell with h0|⟨g,og,hg,hcc⟩
    ·omega
    ·exact⟨g,og,hg,hcc 0 _ HU.out,hrc⟩
   have hrc1:1≤rc:=by omega
   have hrc2:(1:Int)≤(rc:Int):=by omega
   generalize r.length=RN at *;have hn3':n<H.cs.length:=(FO.1 HC.out).1;have HN:=FH hn3';clear hn3';go_upto_region 9 with (refine fQ (n:=n) (k:=24) rfl _ _ _ rfl _ rfl rfl [.bool k.t,.int .i64 k.n,.string k.s] rfl wI.out xW.out (FX HN.out) (by simp) (c':={ c with stands:=true,key:=k }) rfl (by intro u hu;simp at hu;rcases hu with rfl|rfl|rfl<;>rfl) (by kernel_rfl) ?_;intro w4 hs4;have wO:=FH hs4;clear hs4 wI hcu y0 y1 y2)
   obtain⟨hcc,cf⟩:=pj wO.out xW.out (FX (by rw [FV];exact HN.out));obtain⟨-,-,-,-,-,q24,q25,q26⟩:=wv hcc;clear hcc cf;go_upto_region 10 with (refine fQ (n:=n) (k:=13) rfl _ _ _ rfl _ rfl rfl [.bool false,.bool true,.bool true,.bool k.t,.int .i64 k.n,.string k.s,.bool false,.bool false,.bool false,.int .i64 0,.string ⟨#[]⟩] rfl wO.out xW.out (FX (by rw [FV];exact HN.out)) (by simp) (c':={ c with stands:=true,key:=k,frm:=⟨false,true,true,k,false,false,default⟩ }) rfl (by intro u hu;simp at hu;rcases hu with rfl|rfl|rfl|rfl|rfl|rfl|rfl|rfl|rfl|rfl|rfl<;>rfl) (by kernel_rfl) ?_;intro w5 hs5;have wT:=FH hs5;clear hs5 wO q24 q25 q26)
   have xC:=FH (show TxIn B w5 D2 x o { X with curs:=X.curs.set n { m with stands:=true,key:=k,frm:=⟨false,true,true,k,false,false,default⟩ } } (blk ba aZ aL::blk bs e.cells.toArray tSt::l)from⟨⟨H.lv,H.es,((H.cs.set n _).set n _).set n _⟩,⟨A8.out.log,by
    rw [List.set_set,List.set_set];exact A8.out.curs.set (a:={ c with stands:=true,key:=k,frm:=⟨false,true,true,k,false,false,default⟩ }) (b:={ m with stands:=true,key:=k,frm:=⟨false,true,true,k,false,false,default⟩ }) ⟨yn.out.1,yn.out.2.1,rfl,yn.out.2.2.2.1,yn.out.2.2.2.2.1,rfl,rfl,yn.out.2.2.2.2.2.2.2.mono wU.out⟩ n,A8.out.saves,by rw [FV];exact A8.out.three,A8.out.small⟩,wT.out⟩)
   clear wT;go_wp2_with (refine ay rfl _ _ _ rfl aL ba rfl [.int .i64 0,.slice (some ⟨fg,fo,none⟩) 1 1,.int .i64 0] rfl aZ xC.out (by kernel_rfl) rfl (by intro u hu;simp at hu;rcases hu with rfl|rfl|rfl<;>rfl) ?_;intro w6 hs6;have wK:=FH hs6;clear hs6 xC);refine bodyPost_ret (av rfl _ _ rfl (aJ rfl (aj (wK.out.sat.blk 0 rfl)))) rfl ?_;rw [As.out];exact⟨_,1,1,D2,rfl,wU.out,DY.out,wK.out.drop.drop⟩
end Go.Proofs.YtdobimafhbfkhaaGreat
