/- A transaction is run on the document's oracle (ratlineref15.Oracle.Do), and what follows. -/
import Derived.Test.YtdobimafhbfkhaaGreatOY50
import Derived.Test.YtdobimafhbfkhaaGreatOY39
import Derived.Test.YtdobimafhbfkhaaGreatOY42
set_option maxHeartbeats 64000000
namespace Go.Proofs.YtdobimafhbfkhaaGreat
open Go.ChangeShapes Go.WideShapes Go.ChangeAt Go.RowKit
set_option maxRecDepth 100000
set_option linter.unusedSimpArgs false
abbrev tOf : TypeId:=45
theorem jw {w:World}{g o:Nat}{a b:Value}(h:w.rangeAt g o [a,b]):(loadVar tOf ⟨g,o,none⟩).run Tryz.prog w = .ok (.agg #[a,b]) w:=run_loadVar_mid w g o _ _ _ h Tryz.underlying45 rfl (by kernel_rfl)
def dxZ (tv lv:VT):DxE:=⟨tv,lv,[RowT.none,RowT.none,RowT.none,RowT.none],[0,0,0,0],0,[dc0,dc0,dc0]⟩
theorem dxZ_ok {D:PH}{tv lv:VT}{O:OrM}(ht:TblsAt D tv.v O.cols)(hl:TabsL D lv.v O.tabs)(hf:O.cols.length≤20∧∀cc∈O.cols,cj cc=true):DxOk D (cS O.cols O.tabs) (dxZ tv lv):=by
 refine⟨⟨rfl,rfl,rfl⟩,ht,hl,rfl,fun n s v h1 h2 _=>?_,rfl,.cons (oK D) (.cons (oK D) (.cons (oK D) .nil)),hf,rfl⟩
 match n,h1 with
 | 0,h1=>cases h1;exact absurd rfl h2
 | 1,h1=>cases h1;exact absurd rfl h2
 | 2,h1=>cases h1;exact absurd rfl h2
 | 3,h1=>cases h1;exact absurd rfl h2
theorem uD {P:Program}{c:Code}{Q:Exit→Act→World→Prop}{a:Act}{w w':World}(e:w'=w)(h:c.wp P Q a w'):c.wp P Q a w:=e▸h
theorem quad : ∀n:Fin 151,n.val*(151-n.val)≤9000:=by decide +kernel
theorem TxI.short {n c:Nat}{X:TxM}(h:TxI n c X)(hn:n+c≤150):X.log.length+200≤10000:=by
 have h1:=h.len;have h2:=Nat.mul_le_mul_left n (show c+1≤151-n by omega);have h3:=quad ⟨n,by omega⟩;simp only at h3;omega
def DxAnsV (B:World)(D:PH)(x:Nat)(l:List HP)(p:TxM×AnsM)(qe qn:Int)(e:Ending)(w':World):Prop:=∃(ra:Option Addr) (rn rc:Nat) (D':PH),e = .returned (.agg #[.int .i64 qe,.slice ra rn rc,.int .i64 qn])∧PH.le D D'∧RowsF D' (.slice ra rn rc) p.2.rows∧gt B w' D' x p.1 l
def RDoAns (B:World)(D:PH)(l:List HP)(p:OrM×List AnsM)(e:Ending)(w':World):Prop:=∃(tv lv:VT) (a:Option Addr) (cc:Nat) (D':PH),e = .returned (.tuple #[.agg #[tv.v,lv.v],.slice a p.2.length cc])∧PH.le D D'∧AnsL D' (.slice a p.2.length cc) p.2∧TblsAt D' tv.v p.1.cols∧TabsL D' lv.v p.1.tabs∧Sat B D' w' l
theorem kL : ∀(l:List StmM) (X:TxM),(cF X l).1.cols=X.cols
 | [],_=>rfl
 | s::l,X=>(kL l _).trans (j8 X s)
theorem dx_two {w:World}{x:Nat}{E:DxE}{B:World}{D:PH}{l:List HP}(h:Sat B D w (blk x E.cells.toArray tDx::l)):w.rangeAt x 0 [E.tv.v,E.lv.v]:=fun k v hk=>by
 obtain⟨c0,c1,_⟩:=bS h
 match k,hk with
 | 0,hk=>cases hk;exact c0
 | 1,hk=>cases hk;exact c1
 | k+2,hk=>simp at hk
theorem rdo_run {B w:World}{D:PH}{n:Nat}{O:OrM}{l:List HP}{lev:Int}{sa:Option Addr}{N sc:Nat}{ss:List StmM}{tv lv:VT}(ht:TblsAt D tv.v O.cols)(hl:TabsL D lv.v O.tabs)(hf:O.cols.length≤20∧∀cc∈O.cols,cj cc=true)(hst:StmL D (.slice sa N sc) ss)(hnp:∀s∈ss,s.pred.nodes.length≤1000000)(hI:OrI n O)(hn:n+ss.length≤150)(h:Sat B D w l) :
  Calls Tryz.prog 18 #[.agg #[tv.v,lv.v],.agg #[.int .i64 lev,.slice sa N sc]] w (RDoAns B D l (O.run ss)):=by
 obtain⟨es,hes,hrd⟩:=hst;have hel:=hes.len;have hNl:N=es.length:=by obtain⟨_,_,ao,c,h2,_⟩:=hrd;cases h2;rfl
 subst hNl;obtain⟨i0,hinf,hz0,hz1,hz2⟩:=info_parts sN;have xB:=FH (And.intro hinf (And.intro hz0 (And.intro hz1 hz2)));clear hinf hz0 hz1 hz2;have h1:=(h.alloc #[tv.v,lv.v] tOf).alloc #[.int .i64 lev,.slice sa es.length sc] j3;have h2:=(h1.alloc #[.slice none 0 0,.slice none 0 0] tOf).alloc (dxZ tv lv).cells.toArray tDx;rw [World.size_alloc,World.size_alloc,World.size_alloc]at h2;obtain⟨W2,hW2,h3⟩:∃W,W=(((w.alloc (.cells #[tv.v,lv.v] tOf)).alloc (.cells #[.int .i64 lev,.slice sa es.length sc] j3)).alloc (.cells #[.slice none 0 0,.slice none 0 0] tOf)).alloc (.cells (dxZ tv lv).cells.toArray tDx)∧Sat B D W (blk (w.heap.size+1+1+1) (dxZ tv lv).cells.toArray tDx::blk (w.heap.size+1+1) #[.slice none 0 0,.slice none 0 0] tOf::blk (w.heap.size+1) #[.int .i64 lev,.slice sa es.length sc] j3::blk w.heap.size #[tv.v,lv.v] tOf::l):=⟨_,rfl,h2⟩;have Ah:=FH hW2;have wJ:=FH h3;have yX:=FH hes;have wQ:=FH hrd;have AX:=FH hnp;have DZ:=FH hI;have HN:=FH hn;have zq:=FH hel;have A6:=FH hI.start;have FE:=FH (dxZ_ok ht hl hf);have xM:=FH (jw (w:=(((w.alloc (.cells #[tv.v,lv.v] tOf)).alloc (.cells #[.int .i64 lev,.slice sa es.length sc] j3)).alloc (.cells #[.slice none 0 0,.slice none 0 0] tOf))) (aj ((h1.alloc #[.slice none 0 0,.slice none 0 0] tOf).blk 2 rfl)));generalize hNN:es.length=N at *;have yV:=FH hNN;clear h h1 h2 h3 hW2 ht hl hf hes hrd hnp hI hn hel hNN;go_enter Tryz.func18,Tryz.ntmps18;go_upto_region 4 with (refine aV rfl _ _ rfl _ _ rfl _ xM.out ?_)
 refine uD Ah.out ?_;clear Ah xM;generalize w.heap.size+1+1+1=bx at wJ ⊢;generalize w.heap.size+1+1=br at wJ ⊢;generalize w.heap.size+1=bt at wJ ⊢;generalize w.heap.size=bo at wJ ⊢;have wI:=FH ((wJ.out.own_nil aL 3).swap);clear wJ
 go_loopw [7,8] (fun ov idx wr=>∃(j:Nat) (oa:Option Addr) (oc:Nat) (D2:PH) (aes:List AnsE) (n' c':Nat),ov = .slice oa j oc∧idx = .int .i64 j∧j≤N∧PH.le D D2∧aes.length=j∧All2 (AnsOk D2) aes (cF (cS O.cols O.tabs) (ss.take j)).2∧TxI n' c' (cF (cS O.cols O.tabs) (ss.take j)).1∧n'+c'=n+j∧gt B wr D2 bx (cF (cS O.cols O.tabs) (ss.take j)).1 (aD aL 3 (.slice oa j oc) j (aes.flatMap AnsE.cells)::blk br #[.slice none 0 0,.slice none 0 0] tOf::blk bt #[.int .i64 lev,.slice sa N sc] j3::blk bo #[tv.v,lv.v] tOf::l)) (fun _ idx _=>N-(intOf idx).toNat)
 case atStart=>exact⟨0,none,0,D,[],n,0,rfl,rfl,Gp _,PH.le.refl _,rfl,.nil,A6.out,rfl,dxZ tv lv,FE.out,wI.out⟩
 case round =>
  obtain⟨j,oa,oc,D2,aes,n1,c1,rfl,rfl,hj,hle,hal,hao,hti,hnc,hdx⟩:=hrel;have wU:=FH hle;have xI:=FH hal;have Ba:=FH hao;have yD:=FH hti;have Ca:=FH hnc;have Ep:=FH hdx;obtain⟨E,hE,hs1⟩:=hdx;obtain⟨t0,t1,tf⟩:=dA (hs1.blk 3 rfl);have hjN:j≤150:=by have:=HN.out;have:=zq.out;omega
  by_cases hlt:j<N
  ·obtain⟨e,he⟩:∃e,es[j]?=some e:=⟨es[j]'(by rw [yV.out];exact hlt),FP _⟩
   obtain⟨s,hs,hok⟩:=yX.out.get he;have ym:=FH (show ss.take (j+1)=ss.take j ++ [s] by rw [F3,hs];rfl);have hmem:=FQ hs;have yn:=FH (hok.mono wU.out);have hfit:bG s.row∧∀q∈s.sets,q.v.fit:=⟨hok.row.2,hok.sets.2⟩;have Ab:=FH (yD.out.step hfit.1 hfit.2 (by have:=Ca.out;have:=HN.out;have:=zq.out;omega));have hji:(j:Int)<(N:Int):=by omega
   obtain⟨sg,so,rfl,hrg⟩:=bi StmE.len ((wQ.out.mono wU.out).rd hs1) he yV.out;have yH:=FH (fp hrg);have xm:=FH (vW yn.out (AX.out s hmem) yD.out (yD.out.short (by have:=Ca.out;have:=HN.out;have:=zq.out;omega)) Ep.out);have zD:=FH (jk (cS O.cols O.tabs) s (ss.take j));rw [←ym.out]at zD;obtain⟨Y,hY⟩:∃Y,(cF (cS O.cols O.tabs) (ss.take j)).1=Y:=⟨_,rfl⟩;obtain⟨AS,hAS⟩:∃A,(cF (cS O.cols O.tabs) (ss.take j)).2=A:=⟨_,rfl⟩;rw [hY]at xm Ab zD;rw [hAS]at Ba zD;obtain⟨n2,c2,hnc2,-,hti2⟩:=Ab.out;have yU:=FH hti2;have Cb:=FH hnc2;obtain⟨qe,qn,hqe,hqn⟩:∃qe qn,(cN Y s).2.e=qe∧(cN Y s).2.n=qn:=⟨_,_,rfl,rfl⟩;have HQ:=FH (And.intro hqe hqn);rw [show DxAns B D2 bx _ (cN Y s)=DxAnsV B D2 bx (aD aL 3 (.slice oa j oc) j (aes.flatMap AnsE.cells)::blk br #[.slice none 0 0,.slice none 0 0] tOf::blk bt #[.int .i64 lev,.slice (some ⟨sg,so,none⟩) N sc] j3::blk bo #[tv.v,lv.v] tOf::l) (cN Y s) qe qn by rw [←hqe,←hqn];rfl]at xm;clear hqe hqn hY hAS yD Ep hmem hs hok he hfit hrg hE hs1 hle hal hao hti hnc wI hnc2 hti2 Ab;go_wp2_with (first|(refine aV rfl _ _ rfl _ _ rfl _ yH.out ?_)|(go_at_call 40;refine xm.out.mono ?_;rintro e7 w7 ⟨ra,rn,rc,D3,rfl,hle3,hrw3,E3,hE3,hs7⟩;have xt:=FH hle3;have xg:=FH hrw3;have Dw:=FH hE3;have AA:=FH hs7;clear hle3 hrw3 hE3 hs7 xm yH t0 t1 tf)|(refine dL rfl _ _ rfl aL i0 _ (AnsE.cells ⟨qe,ra,rn,rc,qn⟩) rfl Tryz.underlying47 xB.out.1 xB.out.2.1 (xB.out.2.2.1.trans rfl) (by rw [AnsE.len];decide) (by rw [AnsE.len];decide) ?_;have C5:=FH ((AA.out.alloc (AnsE.cells ⟨qe,ra,rn,rc,qn⟩).toArray aL).front 2 rfl);have zO:=FH (bC (size:=3) (n:=1) (ak w7 (.cells (AnsE.cells ⟨qe,ra,rn,rc,qn⟩).toArray aL)) rfl (by unfold maxLen;omega));clear AA)|(at_builtin;refine az _ rfl _ _ tAnss rfl aL i0 _ 3 40 Tryz.underlying47 xB.out.1 xB.out.2.1 xB.out.2.2.1 xB.out.2.2.2 rfl _ j _ rfl C5.out _ 1 _ rfl zO.out (by simpa using AnsE.one ⟨qe,ra,rn,rc,qn⟩) (by unfold maxLen;omega) (by omega) ?_;intro v9 w9 hs9 h19;obtain⟨oa2,oc2,rfl⟩:=hs9.own_shape;have Ea:=FH (hs9.swap.drop.swap);clear hs9 h19 C5 zO));go_roundw
   case rel =>
    refine⟨j+1,oa2,oc2,D3,aes ++ [⟨qe,ra,rn,rc,qn⟩],n2,c2,rfl,by go_num,by omega,wU.out.trans xt.out,by rw [FR,xI.out];rfl,?_,?_,by have:=Cb.out;have:=Ca.out;omega,?_⟩
    ·rw [zD.out]
     exact(Ba.out.imp (fun _ _ h=>h.mono xt.out)).snoc ⟨HQ.out.1.symm,xg.out,HQ.out.2.symm⟩
    ·rw [zD.out];exact yU.out
    ·rw [zD.out]
     refine⟨E3,Dw.out,?_⟩;have:=Ea.out;rw [FT,List.flatMap_singleton];exact this
   case measure=>simp [intOf];omega
  ·obtain rfl:j=N:=by omega
   have hji:¬((j:Int)<(j:Int)):=by omega
   have hall:ss.take j=ss:=FS (by have:=zq.out;omega);rw [hall]at Ba hE;have xM:=FH (jw (dx_two hs1));have HE:=FH hE;have wO:=FH (hs1.front 2 rfl);clear hE hs1 hle hal hao hti hnc wI yD Ep hall;go_wp2_with (first|(refine aV rfl _ _ rfl _ _ rfl _ xM.out ?_)|(refine ah rfl _ _ _ rfl tOf br rfl [E.tv.v,E.lv.v] rfl _ wO.out (by kernel_rfl) rfl (by intro u hu;simp at hu;rcases hu with rfl|rfl<;>rfl) ?_;intro w7 hs7;have wP:=FH hs7;clear hs7 wO xM t0 t1 tf));refine bodyPost_ret (bZ rfl _ _ rfl (jw (aj (wP.out.blk 0 rfl)))) rfl ?_;obtain⟨D3,hle3,hrd3,hs8⟩:=wP.out.drop.drop.own_give;have hl2:(O.run ss).2.length=j:=(i5 _ ss).trans zq.out.symm;have hc:(cF (cS O.cols O.tabs) ss).1.cols=O.cols:=kL ss _;refine⟨E.tv,E.lv,oa,oc,D3,by rw [hl2];rfl,wU.out.trans hle3,?_,?_,(HE.out.mono hle3).rows,hs8.drop.drop⟩
   ·rw [hl2]
    exact⟨aes,Ba.out.imp (fun _ _ h=>h.mono hle3),by rw [xI.out];exact hrd3⟩
   ·have h:=(HE.out.mono hle3).tables
    rw [hc]at h;exact h
theorem pR {w:World}{v:Value}{cols:List (List Bool)}(ht:TblsAt (aB w) v cols) :
  Calls Tryz.prog 15 #[v] w fun e w'=>e = .returned (.bool (eo cols))∧Kept (fun _=>False) w w':=by
 obtain⟨us,hu1,hu2,hu3,hu4⟩:=ht;obtain⟨ta,tc,rfl⟩:=hu3.shape;have HU:=FH (And.intro hu1 hu4);have wS:=FH (Sat.start w);obtain⟨N,hN⟩:∃N,cols.length=N:=⟨_,rfl⟩;rw [hN]at hu3 ⊢;have zo:=FH hu3;have HN:=FH hN;clear hu1 hu2 hu3 hu4;by_cases h1:1≤N
 case neg =>
  have h1i:(N:Int)<1:=by omega
  have HE:=FH (show eo cols=false by unfold eo;rw [hN,FY h1];rfl);clear hN h1;go_enter Tryz.func15,Tryz.ntmps15;go_wp2_with fail;go_ret;exact⟨by rw [HE.out];rfl,Kept.refl _ _⟩
 have h1i:¬((N:Int)<1):=by omega
 by_cases h3:N≤3
 case neg =>
  have h3i:(3:Int)<(N:Int):=by omega
  have HE:=FH (show eo cols=false by unfold eo;rw [hN,FY h3,Bool.and_false];rfl);clear hN h1 h3;go_enter Tryz.func15,Tryz.ntmps15;go_wp2_with fail;go_ret;exact⟨by rw [HE.out];rfl,Kept.refl _ _⟩
 have h3i:¬((3:Int)<(N:Int)):=by omega
 have HE:=FH (show eo cols=cols.all cj by unfold eo;rw [hN,F5 h1,F5 h3];rfl);clear hN h1;go_enter Tryz.func15,Tryz.ntmps15;go_wp2_with fail
 go_loopw [3] (fun iv wr=>∃k:Nat,iv = .int .i64 k∧k≤N∧(cols.take k).all cj=true∧Kept (fun _=>False) w wr) (fun iv _=>N-(intOf iv).toNat)
 case atStart=>exact⟨0,rfl,Gp _,rfl,Kept.refl _ _⟩
 case round =>
  obtain⟨k,rfl,hk,hall,hkr⟩:=hrel;have wZ:=FH hall;have HK:=FH hkr;have Av:=FH (wS.out.kept hkr);clear hall hkr;by_cases hlt:k<N
  ·have hki:(k:Int)<(N:Int):=by omega
   obtain⟨c,hc⟩:∃c,cols[k]?=some c:=⟨cols[k]'(by rw [HN.out];exact hlt),FP _⟩;obtain⟨cv,hcv⟩:∃cv,us[k]?=some cv:=⟨us[k]'(by rw [HU.out.1,HN.out];exact hlt),FP _⟩;have hcol:=HU.out.2 k cv c hcv hc;obtain⟨ca,cc,rfl⟩:=hcol.shape;obtain⟨tg,tof,rfl,htc⟩:=ji (zo.out.rd Av.out) hcv hlt;have ym:=FH (show cols.take (k+1)=cols.take k ++ [c] by rw [F3,hc];rfl);have AW:=FH (FQ hc);have yx:=FH (lp (hcol.rd Av.out));clear hc hcv hcol;cases hm:cj c with
   | false =>
    rw [show lj c=false from hm]at yx;have yw:=FH (show eo cols=false by rw [HE.out,List.all_eq_false];exact⟨c,AW.out,by rw [hm];decide⟩);clear hm;go_wp2_with (go_at_call 38;refine yx.out.mono ?_;rintro e1 w1 ⟨rfl,hk1⟩;have wN:=FH (HK.out.trans hk1 (fun _ h=>h.elim));clear hk1 yx htc);go_ret;exact⟨by rw [yw.out];rfl,wN.out⟩
   | true =>
    rw [show lj c=true from hm]at yx;have HM:=FH hm;clear hm;go_wp2_with (go_at_call 38;refine yx.out.mono ?_;rintro e1 w1 ⟨rfl,hk1⟩;have wN:=FH (HK.out.trans hk1 (fun _ h=>h.elim));clear hk1 yx htc);go_roundw
    case rel=>exact⟨k+1,by go_num,by omega,by rw [ym.out,List.all_append,wZ.out,List.all_cons,HM.out];rfl,wN.out⟩
    case measure=>simp [intOf];omega
  ·obtain rfl:k=N:=by omega
   have hki:¬((k:Int)<(k:Int)):=by omega
   have An:=FH (show eo cols=true by rw [HE.out];have h:=wZ.out;rw [FS (Nat.le_of_eq HN.out)]at h;exact h);go_wp2_with fail;go_ret;exact⟨by rw [An.out];rfl,HK.out⟩
def RNewAns (B:World)(D:PH)(l:List HP)(v:Value)(cols:List (List Bool))(e:Ending)(w':World):Prop:=∃(lv:VT) (D':PH),e = .returned (.agg #[v,lv.v])∧PH.le D D'∧TabsL D' lv.v (fJ cols).tabs∧Sat B D' w' l
theorem rNew_ok {B w:World}{D:PH}{l:List HP}{va:Option Addr}{vc:Nat}{cols:List (List Bool)}(hn:cols.length≤3)(h:Sat B D w l) :
  Calls Tryz.prog 16 #[.slice va cols.length vc] w (RNewAns B D l (.slice va cols.length vc) cols):=by
 obtain⟨i0,hi,hz0,hz1,hz2⟩:=info_parts nR;obtain⟨W0,hW0,h0⟩:∃W,W=w.alloc (.cells #[.slice none 0 0,.slice none 0 0] tOf)∧Sat B D W (blk w.heap.size #[.slice none 0 0,.slice none 0 0] tOf::l):=⟨_,rfl,h.alloc _ _⟩;have xh:=FH hW0;have wS:=FH h0;obtain⟨N,hN⟩:∃N,cols.length=N:=⟨_,rfl⟩;have HN:=FH hN;rw [hN]at hn ⊢;clear h h0 hW0 hN;go_enter Tryz.func16,Tryz.ntmps16;go_upto_region 1 with fail
 rw [←xh.out];clear xh;generalize w.heap.size=bo at wS ⊢;have hmk:(Instr.makeSlice 43 (.int .i64 (N:Int)) (.int .i64 (N:Int))).run Tryz.prog W0 = .ok (.slice (some ⟨W0.heap.size,0,none⟩) N N) (W0.alloc (.cells (Go.madeCells #[.slice none 0 0] (N*i0.size)) tRs)) :=
  Go.run_make (P:=Tryz.prog) W0 43 tRs i0 (.slice none 0 0) Tryz.underlying43 hi hz0 .i64 .i64 (N:Int) (N:Int) (by omega) (by omega) (by rw [hz2];omega) (by omega)
 rw [hz1]at hmk;have hs1:=wS.out.own_fresh (e:=tRs) (size:=1) (n:=N) (cap:=N) (cs:=Go.madeCells #[.slice none 0 0] (N*1)) (xs:=List.replicate N (.slice none 0 0)) (Gn _) (by unfold maxLen;omega) (by rw [Go.size_madeCells];simp) (by
  have:N=0∨N=1∨N=2∨N=3:=by omega
  rcases this with rfl|rfl|rfl|rfl<;>first|rfl|(simp [Go.madeCells];done)|(simp [Go.madeCells];rfl)) (by intro u hu;obtain⟨_,rfl⟩:=List.mem_replicate.1 hu;rfl)
 obtain⟨W1,hW1⟩:∃W,W=W0.alloc (.cells (Go.madeCells #[.slice none 0 0] (N*1)) tRs):=⟨_,rfl⟩;rw [←hW1]at hmk hs1;obtain⟨D2,le2,r2,hs2⟩:=hs1.own_give;have wU:=FH le2;have HR:=FH r2;have wJ:=FH hs2;clear hs1 le2 r2 hs2 hW1 hi hz0 hz1 hz2;generalize W0.heap.size=bf at *;go_wp2_with (refine ah rfl _ _ _ rfl tOf bo rfl [.slice va N vc,.slice (some ⟨bf,0,none⟩) N N] rfl _ wJ.out (by kernel_rfl) rfl (by intro u hu;simp at hu;rcases hu with rfl|rfl<;>rfl) ?_;intro w7 hs7;have wP:=FH hs7;clear hs7 wJ hmk);refine bodyPost_ret (av rfl _ _ rfl (jw (aj (wP.out.blk 0 rfl)))) rfl ?_;refine⟨⟨some ⟨bf,0,none⟩,N,N⟩,D2,rfl,wU.out,⟨List.replicate N (.slice none 0 0),?_,(by intro u hu;obtain⟨_,rfl⟩:=List.mem_replicate.1 hu;rfl),?_,fun i h m hh hm=>?_⟩,wP.out.drop⟩
 ·show _=(List.replicate cols.length ([]:aq)).length
  rw [List.length_replicate,List.length_replicate,HN.out]
 ·show RdP D2 1 _ (List.replicate cols.length ([]:aq)).length _
  rw [List.length_replicate,HN.out];exact HR.out
 ·obtain rfl:=List.eq_of_mem_replicate (FQ hh)
  obtain rfl:=List.eq_of_mem_replicate (FQ (show(List.replicate cols.length ([]:aq))[i]?=some m from hm));exact RowsF.nil _
theorem ny : ∀(ts:List (List StmM)) (O:OrM),(mK O ts).cols=O.cols
 | [],_=>rfl
 | ss::ts,O=>ny ts (O.run ss).1
theorem may_or {cols:List (List Bool)}(h:eo cols=true):cols.length≤3∧∀cc∈cols,cj cc=true:=by
 unfold eo at h;simp only [Bool.and_eq_true,decide_eq_true_eq]at h;exact⟨h.1.2,List.all_eq_true.1 h.2⟩
theorem vS {B w:World}{D:PH}{v:Value}{T:List aq}{m:aq}{i:Nat}{l:List HP}(hT:TabsL D v T)(hm:T[i]?=some m)(h:Sat B D w l) :
  ∃lg log lc ra rc,v = .slice (some ⟨lg,log,none⟩) T.length lc∧RowsF D (.slice ra m.length rc) m∧w.cell? ⟨lg,log+i,none⟩=some (.slice ra m.length rc):=by
 obtain⟨us,g1,g2,g3,g4⟩:=hT;have htl:=(FO.1 hm).1;obtain⟨u,hu⟩:∃u,us[i]?=some u:=⟨us[i]'(by omega),FP _⟩;have hmr:=g4 i u m hu hm;obtain⟨ra,rn,rc,rfl⟩:∃a n c,u = .slice a n c:=by obtain⟨_,_,_,h3,_⟩:=hmr.1;obtain⟨a,c,e⟩:=h3.shape;exact⟨a,_,c,e⟩
 obtain rfl:=cK hmr;obtain⟨la,lc,rfl⟩:=g3.shape;obtain⟨lg,log,rfl,hc⟩:=ji (g3.rd h) hu htl;exact⟨lg,log,lc,ra,rc,rfl,hmr,hc⟩
theorem qp {w:World}{g o:Nat}{a b:Value}(h:w.rangeAt g o [a,b]):(loadVar j3 ⟨g,o,none⟩).run Tryz.prog w = .ok (.agg #[a,b]) w:=run_loadVar_mid w g o _ _ _ h Tryz.underlying51 rfl (by kernel_rfl)
def si (B:World)(D:PH)(l:List HP)(P:OrM)(A:List AnsM)(k:Nat)(e:Ending)(w':World):Prop:=∃(tv lv:VT) (a:Option Addr) (cc:Nat) (D':PH),e = .returned (.tuple #[.agg #[tv.v,lv.v],.slice a k cc])∧PH.le D D'∧AnsL D' (.slice a k cc) A∧TblsAt D' tv.v P.cols∧TabsL D' lv.v P.tabs∧Sat B D' w' l
theorem RDoAns.words {B:World}{D:PH}{l:List HP}{P:OrM}{A:List AnsM}{k:Nat}{p:OrM×List AnsM}{e:Ending}{w':World}(hp:p=(P,A))(hk:A.length=k)(h:RDoAns B D l p e w'):si B D l P A k e w':=by
 subst hp hk;exact h
theorem tt {O:OrM}{z:Int}(h:¬(0≤z∧z<(O.tabs.length:Int))):ii O z = []:=by unfold ii;rw [if_neg h]
theorem uW {w:World}{v u:Value}{cols:List (List Bool)}{ts:List (List StmM)}(ht:TblsAt (aB w) v cols)(hx:TxnL (aB w) u ts) :
  Calls Tryz.prog 4 #[v,u] w fun r w'=>r = .returned (.bool true)∧Kept (fun _=>False) w w':=by
 obtain⟨va,vc,rfl⟩:∃a c,v = .slice a cols.length c:=by obtain⟨us,_,_,h3,_⟩:=ht;obtain⟨a,c,h⟩:=h3.shape;exact⟨a,c,h⟩
 obtain⟨ua,uc,rfl⟩:∃a c,u = .slice a ts.length c:=by
  obtain⟨a,m,c,rfl⟩:∃a m c,u = .slice a m c:=by obtain⟨es,_,h2⟩:=hx;obtain⟨a,c,h3⟩:=h2.shape;exact⟨a,_,c,h3⟩
  exact⟨a,c,by rw [hx.len]⟩
 have wG:=FH (Sat.start w);have HT:=FH ht;have HX:=FH hx;obtain⟨C,hC⟩:∃N,cols.length=N:=⟨_,rfl⟩;have HC:=FH hC;rw [hC]at HT ⊢;obtain⟨N,hN⟩:∃N,ts.length=N:=⟨_,rfl⟩;rw [hN]at HX ⊢;have HN:=FH hN;clear ht hx hN hC;go_enter Tryz.func4,Tryz.ntmps4;go_wp2_with fail;refine(wg w).mono ?_;rintro e2 w2 ⟨rfl,hk2⟩;have wJ:=FH (wG.out.kept hk2);clear hk2 wG;go_wp2_with fail;refine(uM (HX.out.mono wJ.out.pool)).mono ?_;rintro e3 w3 ⟨b1,rfl,hb1,hk3⟩;have wI:=FH (wJ.out.kept hk3);have wL:=FH hb1;clear hk3 hb1 wJ;have Bk:=FH (wI.out.end_ (PH.le.refl _));cases b1 with
 | false =>
  go_wp2_with fail;go_ret;exact⟨rfl,Bk.out⟩
 | true =>
 by_cases h20:C≤20
 case neg =>
  have h20i:(20:Int)<(C:Int):=by omega
  go_wp2_with fail;go_ret;exact⟨rfl,Bk.out⟩
 have h20i:¬((20:Int)<(C:Int)):=by omega
 have Ad:=FH (wL.out rfl);clear wL Bk;go_wp2_with fail;refine(uJ HT.out wI.out).mono ?_;rintro e4 w4 ⟨D1,le1,hif⟩;have xp:=FH le1;clear le1 wI;cases hm:eo cols with
 | false =>
  rw [hm,if_neg (by decide)]at hif;obtain⟨rfl,hs4⟩:=hif;have wO:=FH hs4;have HM:=FH hm;clear hs4 hm;go_wp2_with fail;refine(pR ((HT.out.mono xp.out).mono wO.out.pool)).mono ?_;rintro e5 w5 ⟨rfl,hk5⟩;rw [HM.out];have HK:=FH ((wO.out.kept hk5).end_ xp.out);clear hk5 wO;go_wp2_with fail;go_ret;exact⟨rfl,HK.out⟩
 | true =>
  rw [hm,if_pos rfl]at hif;obtain⟨pa,rfl,hs4⟩:=hif;have wO:=FH hs4;have HM:=FH hm;clear hs4 hm;go_wp2_with fail;refine(pR ((HT.out.mono xp.out).mono wO.out.pool)).mono ?_;rintro e5 w5 ⟨rfl,hk5⟩;rw [HM.out];have wT:=FH (wO.out.kept hk5);have HF:=FH (may_or HM.out);have hC3:C≤3:=by have:=HF.out.1;rw [HC.out]at this;exact this
  have zi:=FH (rNew_ok (va:=va) (vc:=vc) HF.out.1 wT.out);rw [HC.out]at zi;clear hk5 wO;go_upto_region 14 with (first|(go_at_call 16;refine zi.out.mono ?_;rintro e6 w6 ⟨lv0,D2,rfl,hle2,htl2,hs6⟩;have xe:=FH (xp.out.trans hle2);have Er:=FH htl2;have wK:=FH ((j5 hle2 hs6).alloc #[.slice none 0 0,.slice none 0 0] tOf);clear hle2 htl2 hs6 zi wT)|(refine ah rfl _ _ _ rfl tOf w6.heap.size rfl [.slice va C vc,lv0.v] rfl _ wK.out (by kernel_rfl) rfl (by intro u hu;simp at hu;rcases hu with rfl|rfl<;>rfl) ?_;intro w7 hs7;have wP:=FH hs7;clear hs7 wK))
  generalize w6.heap.size=bw at wP ⊢;obtain⟨es,hes,hrd⟩:=HX.out;have hel:=hes.len;rw [HN.out]at hel;rw [hel]at hrd;have yX:=FH hes;have zq:=FH hel;have wQ:=FH (hrd.mono xe.out);have yK:=FH HX.out.fits;have Es:=FH (HT.out.mono xe.out);clear hes hel hrd;have hN12:N≤12:=by rw [←HN.out];exact Ad.out.1
  go_wp2_with fail
  go_loopw [10] (fun iv wr=>∃(i:Nat) (D3:PH) (tv lv:VT) (O:OrM),iv = .int .i64 i∧i≤N∧PH.le D2 D3∧mK (fJ cols) (ts.take i)=O∧TblsAt D3 tv.v cols∧TabsL D3 lv.v O.tabs∧Sat w D3 wr (blk bw #[tv.v,lv.v] tOf::orP D3 pa O :: [])) (fun iv _=>N-(intOf iv).toNat)
  case atStart=>exact⟨0,D2,⟨va,C,vc⟩,lv0,fJ cols,rfl,Gp _,PH.le.refl _,rfl,Es.out,Er.out,wP.out⟩
  case round =>
   obtain⟨i,D3,tv,lv,O,rfl,hi,hle,hrun,htb,htl,hsat⟩:=hrel;have wU:=FH hle;have Ck:=FH hrun;have xN:=FH htb;have A7:=FH htl;have wW:=FH hsat;clear hle hrun htb htl hsat wP;by_cases hlt:i<N
   ·have hii:(i:Int)<(N:Int):=by omega
    obtain⟨t,ht⟩:∃t,es[i]?=some t:=⟨es[i]'(by rw [zq.out];exact hlt),FP _⟩;obtain⟨ss,hss,hst⟩:=yX.out.get ht;have hmem:=FQ hss;have hnl:=hst.len;obtain⟨M,hM⟩:∃M,ss.length=M:=⟨_,rfl⟩;rw [hM]at hnl;have hst2:StmL D3 (.slice t.sa M t.sc) ss:=by rw [←hnl];exact hst.mono (xe.out.trans wU.out)
    have hcnt:i8 (ts.take i)+M≤100:=by
     have h1:=vb ts (i+1);rw [F3,hss,Option.toList_some,mH,hM]at h1;have:=Ad.out.2.1;omega
    have BJ:=FH (show mK (fJ cols) (ts.take (i+1))=(O.run ss).1 by rw [F3,hss,Option.toList_some,uu,Ck.out]);have hoi:=OrI.runs (ts.take i) (new_orI cols) (fun q hq=>yK.out q (Gf hq)) (by omega);rw [Ck.out]at hoi;have hoc:O.cols=cols:=by rw [←Ck.out,ny];rfl
    have hoi2:=hoi.run ss (yK.out ss hmem) (by rw [hM];omega);have hnp:∀s∈ss,s.pred.nodes.length≤1000000:=fun s hs=>by have:=(Ad.out.2.2 ss hmem s hs).2.2;omega
    obtain⟨P,hP⟩:∃P,(O.run ss).1=P:=⟨_,rfl⟩;obtain⟨A,hA⟩:∃A,(O.run ss).2=A:=⟨_,rfl⟩;have hal:A.length=M:=by rw [←hA];exact(i5 _ _).trans hM
    have hrp:O.run ss=(P,A):=by rw [←hP,←hA]
    have hpc:P.cols=cols:=by rw [←hP];exact hoc
    rw [hP]at hoi2 BJ;have Et:=FH hoi2;have hpl:P.tabs.length=C:=by rw [hoi2.well.1,hpc];exact HC.out
    have yq:=FH hpl;have zh:=FH hpc;have C4:=FH ((uU (lev:=t.lev) hst2 hnp hoi (by rw [hM];omega) wW.out.swap).mono (fun e w' h=>h.words hrp hal));have Dm:=FH (show ∀(D':PH) (W:World) (L:List HP),PH.le D3 D'→Sat w D' W L→Calls Tryz.prog 18 #[.agg #[tv.v,lv.v],.agg #[.int .i64 t.lev,.slice t.sa M t.sc]] W (si w D' L P A M)from fun D' W L le hs =>
     (rdo_run (lev:=t.lev) (by rw [hoc];exact xN.out.mono le) (A7.out.mono le) (by rw [hoc];exact⟨by have:=HF.out.1;omega,HF.out.2⟩) (hst2.mono le) hnp hoi (by rw [hM];omega) hs).mono (fun e w' h=>h.words hrp hal))
    obtain⟨ug,uog,rfl,hr⟩:=bi TxnE.len ((wQ.out.mono wU.out).rd wW.out) ht zq.out;have x0:=hr 0 _ rfl;have x1:=hr 1 _ rfl;rw [Nat.add_zero]at x0;rw [hnl]at x1;have Bb:=FH (show ∀(W:World) (D':PH) (L:List HP),PH.le D3 D'→Sat w D' W L→W.cell? ⟨ug,uog+i*2,none⟩=some (.int .i64 t.lev)∧W.cell? ⟨ug,uog+i*2+1,none⟩=some (.slice t.sa M t.sc)from fun W D' L le hs=>by
     obtain⟨g2,og2,hg2,hr⟩:=bi TxnE.len ((wQ.out.mono (wU.out.trans le)).rd hs) ht zq.out;cases hg2;have x0:=hr 0 _ rfl;have x1:=hr 1 _ rfl;rw [Nat.add_zero]at x0;rw [hnl]at x1;exact⟨x0,x1⟩)
    clear ht hss hst hst2 hr hmem hM hnl hoi hoc hoi2 hnp hP hA hrp hpc hpl hcnt;go_upto_region 18 with (go_at_call 17;refine C4.out.mono ?_;rintro e8 w8 ⟨ra,rc,D4,as2,rfl,hle4,hl2,has2,hrd2,hs8⟩;have yP:=FH (show AnsL D4 (.slice ra M rc) A from⟨as2,has2,by rw [hl2];exact hrd2⟩);have xX:=FH hle4;have xQ:=FH hs8.swap;clear hle4 has2 hrd2 hl2 hs8 C4 wW x0 x1)
    have yi:=FH xQ.out.drew;have ET:=FH (show ∀(W:World) (D':PH) (L:List HP),PH.le D3 D'→Sat w D' W L→W.rangeAt ug (uog+i*2) [.int .i64 t.lev,.slice t.sa M t.sc]from fun W D' L le hs k v hk=>by
     obtain⟨x0,x1⟩:=Bb.out W D' L le hs
     match k,hk with
     | 0,hk=>cases hk;exact x0
     | 1,hk=>cases hk;exact x1
     | k+2,hk=>simp at hk)
    have xM:=FH (jw (aj (yi.out.blk 0 rfl)));have Cl:=FH (qp (ET.out _ _ _ xX.out yi.out));clear xQ;refine oG (.rd 0 5 (.rd 1 5 (.rd 2 5 (.rd 3 5 (.rd 4 5 (.ef 5 (.rd 6 10 (.rd 7 10 (.rd 8 999 (.ef 9 (.ef 10 (.rd 11 999 .nil) .nil) .nil)))) (.ef 9 (.ef 5 (.rd 6 10 (.rd 7 10 (.rd 8 999 (.ef 10 (.rd 11 999 .nil) .nil)))) .nil) .nil))))))) [5,9,10] (by kernel_rfl) (by kernel_rfl) ?_;(iterate 5 (refine gv rfl rfl fun K hK=>?_;(first|((refine bF _ _ rfl _ _ rfl _ xM.out ?_);go_simp)|((refine bF _ _ rfl _ _ rfl _ Cl.out ?_);go_simp)|go_simp);apply hK;clear hK K));refine wt rfl rfl ?_ ?_
    focus
     skip
     generalize w8.drew=W8 at yi xM Cl ⊢;refine al rfl fun K hK=>?_;go_simp;refine(Dm.out D4 W8 _ xX.out yi.out).mono ?_;rintro e9 w9 ⟨tv2,lv2,rb,rbc,D5,rfl,hle5,hans,htb,htl,hs9⟩;have xA:=FH hle5;have Cm:=FH hans;have Dn:=FH htb;have Ac:=FH htl;have yu:=FH hs9;clear hle5 hans htb htl hs9 yi xM Cl;refine hK _ _ ?_;clear hK K;refine wpList_nil ?_;apply And.intro
     ·go_simp
     (iterate 3 (refine gv rfl rfl fun K hK=>?_;go_simp;apply hK;clear hK K));refine jH rfl ?_
     refine wpList_plain rfl fun K hK=>?_;go_simp;refine hK _ _ ?_;clear hK K;refine wpList_nil ?_;obtain⟨W9,hW9,hs9⟩:=Sat.hide (yu.out.alloc #[.slice none 0 0,.slice none 0 0] tOf);rw [←hW9];generalize w9.heap.size=bx at hs9 ⊢;clear hW9;have zM:=FH hs9;clear hs9 yu;apply And.intro
     ·go_simp
     refine jH rfl ?_;refine ah rfl _ _ _ rfl tOf bx rfl [tv2.v,lv2.v] rfl #[.slice none 0 0,.slice none 0 0] (zM.out.front 0 rfl) (by kernel_rfl) rfl (by intro u hu;simp at hu;rcases hu with rfl|rfl<;>rfl) ?_;intro w12 hs12;have yQ:=FH hs12;clear hs12 zM;refine wpList_nil ?_;apply And.intro
     ·go_simp
     refine gv rfl rfl fun K hK=>?_;go_simp;apply hK;clear hK K;refine qS ?_
    rotate_left
    focus
     skip
     generalize w8.drew=W8 at yi xM Cl ⊢;refine wpList_plain rfl fun K hK=>?_;go_simp;refine hK _ _ ?_;clear hK K;refine wpList_nil ?_;obtain⟨W9,hW9,hs9⟩:=Sat.hide (yi.out.alloc #[.slice none 0 0,.slice none 0 0] tOf);rw [←hW9];generalize W8.heap.size=bx at hs9 ⊢;clear hW9;clear yi xM Cl;have yu:=FH hs9;have xM:=FH (jw (aj (hs9.blk 1 rfl)));have Cl:=FH (qp (ET.out _ _ _ xX.out hs9));obtain⟨x0,x1⟩:=Bb.out W9 _ _ xX.out hs9;obtain⟨y0,y1,yf⟩:=dA (hs9.blk 1 rfl);clear hs9;apply And.intro
     ·go_simp
     refine jH rfl ?_;clear x0 x1 y0 y1 yf;refine al rfl fun K hK=>?_;go_simp;refine(Dm.out D4 W9 _ xX.out yu.out).mono ?_;rintro e9 w9 ⟨tv2,lv2,rb,rbc,D5,rfl,hle5,hans,htb,htl,hs9⟩;have xA:=FH hle5;have Cm:=FH hans;have Dn:=FH htb;have Ac:=FH htl;have zM:=FH hs9;clear hle5 hans htb htl hs9 yu xM Cl;refine hK _ _ ?_;clear hK K;refine wpList_nil ?_;apply And.intro
     ·go_simp
     (iterate 3 (refine gv rfl rfl fun K hK=>?_;go_simp;apply hK;clear hK K));refine jH rfl ?_
     refine ah rfl _ _ _ rfl tOf bx rfl [tv2.v,lv2.v] rfl #[.slice none 0 0,.slice none 0 0] (zM.out.front 0 rfl) (by kernel_rfl) rfl (by intro u hu;simp at hu;rcases hu with rfl|rfl<;>rfl) ?_;intro w12 hs12;have yQ:=FH hs12;clear hs12 zM;refine wpList_nil ?_;apply And.intro
     ·go_simp
     refine gv rfl rfl fun K hK=>?_;go_simp;apply hK;clear hK K;refine qS ?_
    all_goals
     have Al:=FH yQ.out.swap;have zg:=FH (jw (aj (yQ.out.blk 0 rfl)));clear yQ;go_upto_region 20 with (first|(refine aV rfl _ _ rfl _ _ rfl _ zg.out ?_)|(refine ah rfl _ _ _ rfl tOf bw rfl [tv2.v,lv2.v] rfl _ Al.out (by kernel_rfl) rfl (by intro u hu;simp at hu;rcases hu with rfl|rfl<;>rfl) ?_;intro w13 hs13;have Bp:=FH (j5 xA.out hs13.swap.drop.swap);clear hs13 Al zg))
     have xq:=FH (qg ((yP.out.mono xA.out).mono Bp.out.pool) (Cm.out.mono Bp.out.pool));go_wp2_with (go_at_call 19;refine xq.out.mono ?_;rintro e9 w14 ⟨b,rfl,hb,hk9⟩;obtain rfl:=hb rfl;have Do:=FH (Bp.out.kept hk9);clear hb hk9 xq Bp yP Cm)
     go_loopw [14] (fun kv wq=>∃(k:Nat) (D6:PH),kv = .int .i64 ((k:Int)-1)∧k≤C+2∧PH.le D5 D6∧Sat w D6 wq (orP D6 pa P::blk bw #[tv2.v,lv2.v] tOf :: [])) (fun kv _=>(C+1-intOf kv).toNat)
     case atStart=>exact⟨0,D5,rfl,by omega,PH.le.refl _,Do.out⟩
     case round =>
      obtain⟨k,D6,rfl,hk,hle6,hsat⟩:=hrel;have zc:=FH hle6;have xa:=FH hsat;clear hle6 hsat Do;obtain⟨z,hz⟩:∃z:Int,(k:Int)-1=z:=⟨_,rfl⟩;rw [hz];have hzb : -1≤z∧z≤4:=by omega
      have hw1:IntKind.i64.wrap (z+1)=z+1:=Gr _ (by omega);by_cases hlt2:z≤(C:Int)
      ·have xg:=FH (sD z Et.out xa.out)
       by_cases hin:0≤z∧z<(C:Int)
       ·obtain⟨hz0,hzC⟩:=hin
        obtain⟨j,rfl⟩:∃j:Nat,z=(j:Int):=⟨z.toNat,by omega⟩;obtain⟨m,hm⟩:∃m,P.tabs[j]?=some m:=⟨P.tabs[j]'(by rw [yq.out];omega),FP _⟩;obtain⟨lg,log,lc,ma,mc,hlv,hrf,hcell⟩:=vS (Ac.out.mono zc.out) hm xa.out;rw [yq.out]at hlv;obtain⟨y0,y1,yf⟩:=dA (xa.out.blk 1 rfl);rw [hlv]at y1;rw [vl hm]at xg;have yN:=FH hrf;clear hm hrf hlv;go_wp2_with (first|(go_at_call 21;refine xg.out.mono ?_;rintro e6 w15 ⟨ra6,rc6,D7,rfl,hle7,hr7,hs7⟩;have AY:=FH hle7;have A1:=FH hs7;have xD:=FH (mO (hr7.1.rd hs7) ((yN.out.mono hle7).1.rd hs7));clear hle7 hr7 hs7 xg xa y0 y1 yf hcell)|(go_at_call 20;refine xD.out.mono ?_;rintro e7 w16 ⟨he,hk10⟩;obtain rfl:e7 = .returned (.bool true):=he.trans (by simp);have Cn:=FH (A1.out.kept hk10);clear he hk10 xD A1));go_roundw
        case rel=>exact⟨k+1,D7,by first|go_num|(rw [hw1];congr 1;omega),by omega,zc.out.trans AY.out,Cn.out⟩
        case measure=>simp [intOf];omega
       ·rw [tt (by rw [yq.out];exact hin)]at xg
        have hc2:¬0≤z∨(0≤z∧¬z<(C:Int)):=by omega
        clear hin;rcases hc2 with hc4|⟨hc2,hc3⟩
        all_goals
         go_wp2_with (first|(go_at_call 21;refine xg.out.mono ?_;rintro e6 w15 ⟨ra6,rc6,D7,rfl,hle7,hr7,hs7⟩;have AY:=FH hle7;have A1:=FH hs7;have xD:=FH (mO (hr7.1.rd hs7) ((RowsF.nil D7).1.rd hs7));clear hle7 hr7 hs7 xg xa)|(go_at_call 20;refine xD.out.mono ?_;rintro e7 w16 ⟨he,hk10⟩;obtain rfl:e7 = .returned (.bool true):=he.trans (by simp);have Cn:=FH (A1.out.kept hk10);clear he hk10 xD A1));go_roundw
         case rel=>exact⟨k+1,D7,by first|go_num|(rw [hw1];congr 1;omega),by omega,zc.out.trans AY.out,Cn.out⟩
         case measure=>simp [intOf];omega
      ·go_wp2_with fail
       go_roundw
       case rel=>exact⟨i+1,D6,tv2,lv2,P,by go_num,by omega,(wU.out.trans xX.out).trans (xA.out.trans zc.out),BJ.out,by rw [←zh.out];exact Dn.out.mono zc.out,Ac.out.mono zc.out,xa.out.swap⟩
       case measure=>simp [intOf];omega
   ·obtain rfl:i=N:=by omega
    have hii:¬((i:Int)<(i:Int)):=by omega
    have AZ:=FH (wW.out.drop.drop.end_ (xe.out.trans wU.out));clear wW;go_wp2_with fail;go_ret;exact⟨rfl,AZ.out⟩
end Go.Proofs.YtdobimafhbfkhaaGreat
