/- Rows are changed, all or none (txn.all), and what follows. -/
import Derived.Test.YtdobimafhbfkhaaGreatOY26
import Derived.Laws.MakeOwn
set_option maxHeartbeats 64000000
namespace Go.Proofs.YtdobimafhbfkhaaGreat
open Go.ChangeShapes Go.WideShapes Go.ChangeAt Go.RowKit
set_option maxRecDepth 100000
set_option linter.unusedSimpArgs false
theorem gu : (Tryz.prog.info? tW).map (fun i=>(i.zero,i.size,i.bytes))=some (some (.slice none 0 0),1,24):=by kernel_rfl
theorem wm {B w:World}{D:PH}{x o:Nat}{X:TxM}{l:List HP}(h:TxIn B w D x o X l){e:TypeId}{cap:Nat}{cs:Array Value}(hc:cap≤maxLen)(hz:cap*1≤cs.size):TxIn B (w.alloc (.cells cs e)) D x o X (aD e 1 (.slice (some ⟨w.heap.size,0,none⟩) 0 cap) 0 []::l):=by
 obtain⟨H,h1,hs⟩:=h;have h2:=hs.own_fresh (e:=e) (size:=1) (n:=0) (cap:=cap) (cs:=cs) (xs:=[]) (Gp _) hc hz (by simp) (by simp);exact⟨H,h1,(h2.perm (Ge (l₁:=txL D x o X H) (l₂:=l)).symm)⟩
theorem gw {P:Program}{B:World}{D:PH}{xb ob:Nat}{X:TxM}{l:List HP}(w:World){ops:Array Oper}{rest:List Oper}{o:Oper}{a:Act}{Q:Exit→Act→World→Prop}(hgd:o.guard=none)(s x:Operand)(t:TypeId)
  (ho:o.op = .call { callee:=.builtin .append,args:=#[s,x],argTypes:=#[t,t] })
  (e:TypeId) (i:TypeInfo) (z:Value) (size bytes:Nat) (ht:P.underlying t=some (.slice e)) (hi:P.info? e=some i) (hz:i.zero=some z)
  (hsize:i.size=size) (hby:i.bytes=bytes) (hzs:z.cells.size=size)
  (v:Value) (n:Nat) (xs:List Value) (hv:a.eval s=v) (hs:TxIn B w D xb ob X (aD e size v n xs::l)) (xv:Value) (m:Nat) (news:List Value) (hx:a.eval x=xv) (hrd:Rd w size xv m news) (h1:∀u∈news,u.oneCell'=true)
  (h63:n+m≤maxLen) (hbytes:(n+m)*bytes≤140737488355328)
  (h:∀ra rc w',TxIn B w' D xb ob X (aD e size (.slice ra (n+m) rc) (n+m) (xs++news)::l)→wpList P ops Q rest (a.put o.dst (.slice ra (n+m) rc)) w'):wpList P ops Q (o::rest) a w:=by
 obtain⟨H,hH,hs⟩:=hs;refine az w hgd s x t ho e i z size bytes ht hi hz hsize hby hzs v n xs hv (hs.perm (Ge (l₁:=txL D xb ob X H) (a:=aD e size v n xs) (l₂:=l))) xv m news hx hrd h1 h63 hbytes (fun v' w' hs' _=>?_);obtain⟨ra,rc,rfl⟩:=hs'.own_shape;exact h ra rc w' ⟨H,hH,hs'.perm (Ge (l₁:=txL D xb ob X H) (a:=aD e size (.slice ra (n+m) rc) (n+m) (xs++news)) (l₂:=l)).symm⟩
theorem fF {X:TxM}{i:Nat}{c:List Bool}(h:X.cols[i]?=some c):X.col (i:Int)=c:=by
 unfold TxM.col;rw [F6,FW,h];rfl
theorem mg {B w:World}{D:PH}{x o:Nat}{X:TxM}{l:List HP}{e:TypeId}{size n:Nat}{v:Value}{xs:List Value}(h:TxIn B w D x o X (aD e size v n xs::l)):∃D',PH.le D D'∧RdP D' size v n xs∧TxIn B w D' x o X l:=by
 obtain⟨H,hH,hs⟩:=h;obtain⟨D',hle,hrd,hs2⟩:=(hs.perm (Ge (l₁:=txL D x o X H) (l₂:=l))).own_give;exact⟨D',hle,hrd,lq hH hle hs2⟩
theorem FreshD.fit {D:PH}{hs:List Value}{fr:aq}(h:FreshD D hs fr):∀q∈fr,bG q:=by
 induction h with
 | nil=>intro q hq;cases hq
 | cons hab _ ih =>
  intro q hq;rcases Gl.1 hq with rfl|hq
  ·exact hab.2
  ·exact ih q hq
def uz (c:List Bool)(m:aq)(fr:aq):Prop:=∀q∈fr,aX c q=true∧(aP m (au q)).isSome=true
theorem qu {B w:World}{D:PH}{x o i:Nat}{X:TxM}{l:List HP}{m:aq}{c:List Bool}{rs:aq}{sets:List SetM}{lv sv:Value}(hm:X.tabs[i]?=some m)(hc:X.cols[i]?=some c)(hI:TabI c m)(hml:m.length≤200)
  (hrs:∀r∈rs,aX c r=true∧(aP m (au r)).isSome=true) (hrd:RowsF D lv rs) (hset:SetsF D sv sets) (hn:rs.length≤200) (hb:X.log.length+rs.length≤10000) (h:TxIn B w D x o X l) :
  Calls Tryz.prog 97 #[.pointer (some ⟨x,0,none⟩),.int .i64 i,lv,sv] w (et B D x o l (X.all i rs sets)):=by
 obtain⟨i0,hi,hz0,hz1,hz2⟩:=info_parts gu;obtain⟨N,hN⟩:∃N,rs.length=N:=⟨_,rfl⟩;obtain⟨W0,hW0,h0⟩:∃W,W=w.alloc (.cells aZ aL)∧TxIn B W D x o X (blk w.heap.size aZ aL::l):=⟨_,rfl,h.alloc aZ aL⟩;have xh:=FH hW0;obtain⟨us,hu1,hu2,hu3,hu4⟩:=hrd.1;obtain⟨la,lc,rfl⟩:=hu3.shape;have zo:=FH (show RdP D 1 (.slice la N lc) N us from hN▸hu3);rw [hN]at hn hb ⊢;have wS:=FH h0;clear hW0 h h0 hu3;go_enter Tryz.func97,Tryz.ntmps97;go_upto_region 1 with fail
 rw [←xh.out];clear xh;generalize w.heap.size=ba at wS ⊢;have hmk:(Instr.makeSlice 55 (.int .i64 0) (.int .i64 (N:Int))).run Tryz.prog W0 = .ok (.slice (some ⟨W0.heap.size,0,none⟩) 0 N) (W0.alloc (.cells (Go.madeCells #[.slice none 0 0] (N*i0.size)) tW)) :=
  Go.run_make (P:=Tryz.prog) W0 55 tW i0 (.slice none 0 0) Tryz.underlying55 hi hz0 .i64 .i64 0 (N:Int) (by omega) (by omega) (by rw [hz2];omega) (by omega)
 have hs1:=wm wS.out (e:=tW) (cap:=N) (cs:=Go.madeCells #[.slice none 0 0] (N*i0.size)) (by unfold maxLen;omega) (by rw [Go.size_madeCells,hz1];omega);obtain⟨W1,hW1⟩:∃W,W=W0.alloc (.cells (Go.madeCells #[.slice none 0 0] (N*i0.size)) tW):=⟨_,rfl⟩;rw [←hW1]at hmk hs1;generalize W0.heap.size=bf at hmk hs1;have wG:=FH hs1;have HI:=FH (And.intro hi (And.intro hz0 (And.intro hz1 hz2)));have HN:=FH hN;have Ay:=FH hrs;have HM:=FH hm;have HC:=FH hc;have yD:=FH hI;have zp:=FH hml;have yI:=FH hset;have wQ:=FH hrd;have HU:=FH (And.intro hu1 (And.intro hu2 hu4));clear hi hz0 hz1 hz2 hW1 hs1 wS hN hrs hm hc hI hml hset hrd hu1 hu2 hu4;go_upto_region 2 with fail
 clear hmk;go_wp2_with fail
 go_loopw [9,21] (fun fv idx wr=>∃(j:Nat) (fa:Option Addr) (fc:Nat) (hs:List Value) (fr:aq) (D':PH),idx = .int .i64 j∧j≤N∧fv = .slice fa j fc∧cB c sets (rs.take j) []=(fr,0)∧uz c m fr∧(∀u∈hs,u.oneCell'=true)∧FreshD D' hs fr∧PH.le D D'∧TxIn B wr D' x o X (aD tW 1 (.slice fa j fc) j hs::blk ba aZ aL::l)) (fun _ idx _=>N-(intOf idx).toNat)
 case atStart=>exact⟨0,some ⟨bf,0,none⟩,N,[],[],D,rfl,Gp _,rfl,rfl,(fun q hq=>by cases hq),(fun u hu=>by cases hu),.nil,PH.le.refl _,wG.out⟩
 case round =>
  obtain⟨j,fa,fc,hs,fr,D2,rfl,hj,rfl,hup,hfm,hone,hfd,hle,htx⟩:=hrel;have AQ:=FH hup;have Cq:=FH hfm;have E9:=FH hone;have zB:=FH hfd;have wU:=FH hle;have xE:=FH htx;clear hup hfm hone hfd hle htx wG;by_cases hlt:j<N
  ·obtain⟨r,hr⟩:∃r,rs[j]?=some r:=⟨rs[j]'(by rw [HN.out];exact hlt),FP _⟩
   obtain⟨u,hu⟩:∃u,us[j]?=some u:=⟨us[j]'(by rw [HU.out.1,HN.out];exact hlt),FP _⟩;have xH:=FH (show rs.take (j+1)=rs.take j ++ [r] by rw [F3,hr];rfl);have xD:=FH (Ay.out r (FQ hr));have AC:=FH (show RowF D2 u r from⟨RdP.mono (HU.out.2.2 j u r hu hr) wU.out,wQ.out.2 r (FQ hr)⟩);obtain⟨lg,lo,rfl,hcu⟩:∃lg lo,la=some ⟨lg,lo,none⟩∧wr.cell? ⟨lg,lo+j,none⟩=some u:=by
    obtain⟨_,_,ao,cap,hv,_,_,_,hcell⟩:=(zo.out.mono wU.out).rd xE.out.sat;cases hv;rcases hcell with h0|⟨g,og,hg,hcc⟩
    ·omega
    ·exact⟨g,og,hg,hcc j u hu⟩
   obtain⟨g,og,cap,cv,c0,d0,dc,hcol⟩:=oq xE.out HC.out;have hlc:(i:Int)<(X.cols.length:Int):=by have:=(FO.1 HC.out).1;omega
   have AR:=FH (th xE.out hcol AC.out (yI.out.mono wU.out));have hji:(j:Int)<(N:Int):=by omega
   clear hr hu hcol;generalize X.cols.length=CN at *;by_cases he:(cM c r sets).2=0
   ·rw [he]at AR
    have HE:=FH he;clear he;have DU:=FH (show uz c m (fr ++ [(cM c r sets).1])from fun q hq=>by
     rcases F2.1 hq with hq|hq
     ·exact Cq.out q hq
     ·obtain rfl:=List.mem_singleton.1 hq
      obtain⟨f1,f2,f3⟩:=kw xD.out.1 AC.out.2 yI.out.2 HE.out;exact⟨f1,f3.symm▸xD.out.2⟩)
    have Bl:=FH (show cB c sets (rs.take (j+1)) []=(fr ++ [(cM c r sets).1],0) by rw [xH.out,eW r AQ.out,if_pos HE.out]);go_upto_region 8 with (go_at_call 113;refine AR.out.mono ?_;rintro e2 w2 ⟨a2,n2,c2,D3,rfl,hle3,hrw3,htx3⟩;have xt:=FH (wU.out.trans hle3);have AT:=FH hle3;have AU:=FH hrw3;have xu:=FH htx3;clear hle3 hrw3 htx3 AR xE c0 d0 dc hcu)
    have ht4:=(xu.out.alloc #[.slice a2 n2 c2] tW).perm (List.Perm.swap _ _ _);have zO:=FH (bC (size:=1) (n:=1) (ak w2 (.cells #[.slice a2 n2 c2] tW)) rfl (by unfold maxLen;omega));have xK:=FH ht4;clear ht4 xu;go_wp2_with (at_builtin;refine gw _ rfl _ _ 55 rfl tW i0 _ 1 24 Tryz.underlying55 HI.out.1 HI.out.2.1 HI.out.2.2.1 HI.out.2.2.2 rfl _ j _ rfl xK.out _ 1 _ rfl zO.out (by intro u hu;simp at hu;subst hu;rfl) (by unfold maxLen;omega) (by omega) ?_;intro ra rc w7 htx7;have AA:=FH (htx7.perm (List.Perm.swap _ _ _)).drop;clear htx7 xK zO);go_roundw
    case rel=>exact⟨j+1,ra,rc,hs ++ [.slice a2 n2 c2],fr ++ [(cM c r sets).1],D3,by go_num,by omega,rfl,Bl.out,DU.out,(fun u hu=>by rcases F2.1 hu with h|h;exact E9.out u h;simp at h;subst h;rfl),(zB.out.mono AT.out).snoc AU.out,xt.out,AA.out⟩
    case measure=>simp [intOf];omega
   ·have he2:((cM c r sets).2 == 0)=false:=by simpa using he
    have HE:=FH he;generalize hev:(cM c r sets).2=ev at *;have DV:=FH hev;clear hev;go_wp2_with (first|(go_at_call 113;refine AR.out.mono ?_;rintro e2 w2 ⟨a2,n2,c2,D3,rfl,hle3,-,htx3⟩;have xt:=FH (wU.out.trans hle3);have xu:=FH htx3.drop;clear hle3 htx3 AR xE c0 d0 dc hcu)|(refine ay rfl _ _ _ rfl aL ba rfl [.int .i64 ev,.slice none 0 0,.int .i64 0] rfl aZ xu.out (by kernel_rfl) rfl (by intro u hu;simp at hu;rcases hu with rfl|rfl|rfl<;>rfl) ?_;intro w6 hs6;have wK:=FH hs6;clear hs6 xu));refine bodyPost_ret (av rfl _ _ rfl (aJ rfl (aj (wK.out.sat.blk 0 rfl)))) rfl ?_;have hua:cB c sets rs []=([],ev):=it (j+1) HE.out (by rw [xH.out,eW r AQ.out,DV.out,if_neg HE.out]);have hall:X.all (i:Int) rs sets=(X,bJ ev):=by
     unfold TxM.all;rw [fF HC.out,hua];exact if_neg HE.out
    rw [hall];exact⟨none,0,0,D3,rfl,xt.out,RowsF.nil _,wK.out.drop⟩
  ·obtain rfl:j=N:=by omega
   have hji:¬((j:Int)<(j:Int)):=by omega
   have hall0:cB c sets rs []=(fr,0):=by have:=AQ.out;rwa [FS (Nat.le_of_eq HN.out)]at this
   obtain⟨D3,hle3,hfr,htx3⟩:=mg xE.out;have hlh:hs.length=j:=by have:=hfr.1;omega
   have hlf:fr.length=j:=zB.out.len.symm.trans hlh;have wZ:=FH (show X.all (i:Int) rs sets=(fr.foldl (fun y r=>y.put (i:Int) r) X,fL (j:Int)) by
    unfold TxM.all;rw [fF HC.out,hall0];rw [HN.out]
    rfl)
   have xi:=FH hlf;have DM:=FH hlh;have xt:=FH (wU.out.trans hle3);have ya:=FH hfr;have CZ:=FH (zB.out.mono hle3);have xu:=FH htx3;clear hall0 hle3 hfr htx3 hlh hlf xE zB AQ;go_wp2_with fail
   go_loopw [52] (fun idx wr=>∃(k:Nat) (D':PH),idx = .int .i64 k∧k≤j∧PH.le D3 D'∧TxIn B wr D' x o ((fr.take k).foldl (fun y r=>y.put (i:Int) r) X) (blk ba aZ aL::l)) (fun idx _=>j-(intOf idx).toNat)
   case atStart=>exact⟨0,D3,rfl,Gp _,PH.le.refl _,xu.out⟩
   case round =>
    obtain⟨k,D4,rfl,hk,hle4,htx⟩:=hrel;have xX:=FH hle4;have xE:=FH htx;clear hle4 htx xu;by_cases hlt2:k<j
    ·obtain⟨u,hu⟩:∃u,hs[k]?=some u:=⟨hs[k]'(by rw [DM.out];exact hlt2),FP _⟩
     obtain⟨r,hr,hur⟩:=CZ.out.get hu;obtain⟨m',hp⟩:=qt HM.out yD.out k fr Cq.out CZ.out.fit (by rw [xi.out];exact hk);have hmem:=FQ hr;have hfits:=(Cq.out r hmem).1;obtain⟨k0,h0,hk0,hk1,_⟩:=cO hfits;have hl4:r.length≤4:=by have h1:=cd hfits;have h2:=h1.2;unfold cj at h2;simp at h2;omega
     have Aq:=FH (pP hp.tab (RowF.mono xX.out hur) h0 hk1 (by rw [kF hp.well hfits (by rw [hp.keys];exact(Cq.out r hmem).2),hp.len];exact zp.out) (by rw [hp.log];omega) (by omega) xE.out);have ym:=FH (show(fr.take (k+1)).foldl (fun y r=>y.put (i:Int) r) X=((fr.take k).foldl (fun y r=>y.put (i:Int) r) X).put (i:Int) r by rw [F3,hr];simp);obtain⟨fg,fo,rfl,hcu⟩:∃fg fo,fa=some ⟨fg,fo,none⟩∧wr.cell? ⟨fg,fo+k,none⟩=some u:=by
      obtain⟨_,_,ao,cap,hv,_,_,_,hcell⟩:=(ya.out.mono xX.out).rd xE.out.sat;cases hv;rcases hcell with h0|⟨g,og,hg,hcc⟩
      ·omega
      ·exact⟨g,og,hg,hcc k u hu⟩
     have hki:(k:Int)<(j:Int):=by omega
     clear hu hr hur hp hmem hfits h0 hk0 hk1 hl4;go_wp2_with (go_at_call 94;refine Aq.out.mono ?_;rintro e2 w2 ⟨rfl,D5,hle5,htx5⟩;have xA:=FH (xX.out.trans hle5);have xC:=FH htx5;clear hle5 htx5 Aq xE hcu);go_roundw
     case rel=>exact⟨k+1,D5,by go_num,by omega,xA.out,by rw [ym.out];exact xC.out⟩
     case measure=>simp [intOf];omega
    ·obtain rfl:k=j:=by omega
     have hki:¬((k:Int)<(k:Int)):=by omega
     have ym:=FH (show TxIn B _ D4 x o (fr.foldl (fun y r=>y.put (i:Int) r) X) (blk ba aZ aL::l)from FS (Nat.le_of_eq xi.out)▸xE.out);clear xE;go_wp2_with (refine ay rfl _ _ _ rfl aL ba rfl [.int .i64 0,.slice none 0 0,.int .i64 (k:Int)] rfl aZ ym.out (by kernel_rfl) rfl (by intro u hu;simp at hu;rcases hu with rfl|rfl|rfl<;>rfl) ?_;intro w6 hs6;have wK:=FH hs6;clear hs6 ym);refine bodyPost_ret (av rfl _ _ rfl (aJ rfl (aj (wK.out.sat.blk 0 rfl)))) rfl ?_;rw [wZ.out];exact⟨none,0,0,D4,rfl,xt.out.trans xX.out,RowsF.nil _,wK.out.drop⟩
theorem qm {B w:World}{D:PH}{x o i:Nat}{X:TxM}{l:List HP}{m:aq}{c:List Bool}{k:Val}{sets:List SetM}{sv:Value}(hm:X.tabs[i]?=some m)(hc:X.cols[i]?=some c)(hI:TabI c m)(hml:m.length≤200)(hset:SetsF D sv sets)(hb:X.log.length+1≤10000)(h:TxIn B w D x o X l) :
  Calls Tryz.prog 95 #[.pointer (some ⟨x,0,none⟩),.int .i64 i,k.v,sv] w (et B D x o l (X.one i k sets)):=by
 obtain⟨W0,hW0,h0⟩:=ej h k.cells.toArray aZ tV aL;have xh:=FH (show W0=(w.alloc (.cells #[.bool k.t,.int .i64 k.n,.string k.s] tV)).alloc (.cells aZ aL)from hW0);obtain⟨t,g,og,pc,c0,d1,hpc,hget⟩:=eS h0 hm;have HG:=FH (hget k);have hlt:(i:Int)<(X.tabs.length:Int):=by have:=(FO.1 hm).1;omega
 have wS:=FH h0;have HM:=FH hm;have HC:=FH hc;have yD:=FH hI;have zp:=FH hml;have yI:=FH hset;have HB:=FH hb;have C0:=FH c0;have D1:=FH d1;have PC:=FH hpc;obtain⟨sa,sn,sc,rfl⟩:∃a n c,sv = .slice a n c:=by obtain⟨_,_,ao,rc,h,_⟩:=hset.1;exact⟨ao,_,rc,h⟩
 generalize hTN:X.tabs.length=TN at *;clear h hm hc hI hml hset hb hW0 h0 c0 d1 hpc hget hTN;go_enter Tryz.func95,Tryz.ntmps95;go_upto_region 1 with fail
 rw [←xh.out];clear xh;generalize w.heap.size+1=ba at wS ⊢;generalize w.heap.size=bk at wS ⊢;obtain⟨x0,x1,x2,xf⟩:=aQ (show W0.heap[bk]?=some (.cells #[.bool k.t,.int .i64 k.n,.string k.s] tV (0,0))from wS.out.sat.blk 1 rfl);have c0:=C0.out;have d1:=D1.out;have hpc:=PC.out;refine aH [rq 0 11,rq 1 11,rq 2 11,rq 3 11,rq 4 11,rq 5 11,rq 6 11,rq 7 11,rq 8 11,rq 9 11,rq 10 11,(11,true,0),rq 12 999,rq 13 999,rq 14 999,rq 15 999,rq 16 999] ?_;iterate 11 (refine ae rfl rfl fun K hK=>?_;go_simp;apply hK;clear hK K)
 refine af rfl ?_;refine al rfl fun K hK=>?_;go_simp;refine HG.out.mono ?_;rintro e1 w1 ⟨ra,rn,rc,rfl,hrow,hk1⟩;have AC:=FH hrow;have wG:=FH (wS.out.kept hk1);clear hk1 hrow wS HG c0 d1 hpc x0 x1 x2 xf C0 D1 PC;refine hK _ _ ?_;clear hK K;refine wpList_nil ?_;apply And.intro
 ·go_simp
 iterate 5 (refine ae rfl rfl fun K hK=>?_;go_simp;apply hK;clear hK K)
 refine ag ?_;cases hf:aP m k with
 | none =>
  have HE:=FH (show X.one (i:Int) k sets=(X,bJ 61) by unfold TxM.one;rw [gC HM.out,hf]);clear hf;go_wp2_with (refine ay rfl _ _ _ rfl aL ba rfl [.int .i64 61,.slice none 0 0,.int .i64 0] rfl aZ wG.out (by kernel_rfl) rfl (by intro u hu;simp at hu;rcases hu with rfl|rfl|rfl<;>rfl) ?_;intro w6 hs6;have wK:=FH hs6;clear hs6 wG);refine bodyPost_ret (av rfl _ _ rfl (aJ rfl (aj (wK.out.sat.blk 0 rfl)))) rfl ?_;rw [HE.out];exact⟨none,0,0,D,rfl,PH.le.refl _,RowsF.nil _,wK.out.drop.drop⟩
 | some r =>
  have HE:=FH (show X.one (i:Int) k sets=X.all (i:Int) [r] sets by unfold TxM.one;rw [gC HM.out,hf]);obtain⟨hmem,hkey⟩:=cV hf;have hro:RowF D (.slice ra rn rc) r:=by have:=AC.out;rw [hf]at this;exact this
  obtain⟨D2,hle2,hrw2,htx2⟩:=ql wG.out hro;have xe:=FH hle2;have wZ:=FH (qu HM.out HC.out yD.out zp.out (rs:=[r]) (fun q hq=>by
   obtain rfl:=List.mem_singleton.1 hq;exact⟨yD.out.fits _ hmem,by rw [hkey,hf];rfl⟩) hrw2 (yI.out.mono hle2) (by simp) (by simpa using HB.out) htx2)
  clear hf hmem hkey hro hle2 hrw2 htx2 AC wG;go_wp2_with (first|(go_at_call 97;refine wZ.out.mono ?_;rintro e2 w2 ⟨a2,n2,c2,D3,rfl,hle3,hrw3,htx3⟩;have xt:=FH (xe.out.trans hle3);have AU:=FH hrw3;have xu:=FH htx3;clear hle3 hrw3 htx3 wZ)|(refine ay rfl _ _ _ rfl aL ba rfl [_,.slice a2 n2 c2,_] rfl aZ xu.out (by kernel_rfl) rfl (by intro u hu;simp at hu;rcases hu with rfl|rfl|rfl<;>rfl) ?_;intro w6 hs6;have wK:=FH hs6;clear hs6 xu));refine bodyPost_ret (av rfl _ _ rfl (aJ rfl (aj (wK.out.sat.blk 0 rfl)))) rfl ?_;rw [HE.out];exact⟨a2,n2,c2,D3,rfl,xt.out,AU.out,wK.out.drop.drop⟩
theorem qR {B w:World}{D:PH}{x o i:Nat}{X:TxM}{l:List HP}{m:aq}{c:List Bool}{e:StmE}{s:StmM}(hs:StmOk D e s)(hi:s.table=(i:Int))(hm:X.tabs[i]?=some m)(hc:X.cols[i]?=some c)(hI:TabI c m)(hml:m.length≤200)(hb:X.log.length+1≤10000)(h:TxIn B w D x o X l) :
  Calls Tryz.prog 72 #[.pointer (some ⟨x,0,none⟩),.agg e.cells.toArray] w (et B D x o l (X.one s.table s.key s.sets)):=by
 obtain⟨W0,hW0,h2⟩:=ej h e.cells.toArray aZ tSt aL;have xh:=FH hW0;have HP:=FH (qm (k:=s.key) hm hc hI hml hs.sets hb h2);rw [←hi]at HP;have wS:=FH h2;have xN:=FH hs.table;have CY:=FH hs.key;clear h hs hi hm hc hI hml hb hW0 h2;go_enter Tryz.func72,Tryz.ntmps72;go_upto_region 1 with fail
 rw [←xh.out];clear xh;generalize w.heap.size+1=ba at wS HP ⊢;generalize w.heap.size=bs at wS HP ⊢;obtain⟨x0,x2,x3,x4,x5,x6,x7,x17,x18,x19⟩:=aO (wS.out.sat.blk 1 rfl);rw [xN.out]at x2;rw [CY.out]at x3 x4 x5;go_wp2_with (first|(go_at_call 95;refine HP.out.mono ?_;rintro e2 w2 ⟨ra,rn,rc,D2,rfl,hle,hrw,hs2⟩;have wU:=FH hle;have xg:=FH hrw;have wJ:=FH hs2;clear hle hrw hs2 HP wS x0 x2 x3 x4 x5 x6 x7 x17 x18 x19)|(refine ay rfl _ _ _ rfl aL ba rfl [_,.slice ra rn rc,_] rfl aZ wJ.out (by kernel_rfl) rfl (by intro u hu;simp at hu;rcases hu with rfl|rfl|rfl<;>rfl) ?_;intro w6 hs6;have wK:=FH hs6;clear hs6 wJ));refine bodyPost_ret (av rfl _ _ rfl (aJ rfl (aj (wK.out.sat.blk 0 rfl)))) rfl ?_;exact⟨ra,rn,rc,D2,rfl,wU.out,xg.out,wK.out.drop.drop⟩
abbrev vL : TypeId:=94
theorem CurE.one (c:CurE):∀u∈c.cells,u.oneCell'=true:=by
 intro u hu;simp [CurE.cells,PredE.cells,Spn.cells,Val.cells]at hu;rcases hu with rfl|rfl|rfl|rfl|rfl|rfl|rfl|rfl|rfl|rfl|rfl|rfl|rfl|rfl|rfl|rfl|rfl|rfl|rfl|rfl|rfl|rfl|rfl|rfl|rfl|rfl|rfl<;>rfl
theorem ll (A L cs:List Value)(off:Nat):lay (A++L) (A.length+off) cs=A++lay L off cs:=by
 unfold lay;rw [List.take_append,FS (by omega),show A.length+off-A.length=off by omega,List.drop_append,Gk (l:=A) (by omega),show A.length+off+cs.length-A.length=off+cs.length by omega];simp
theorem pV (o:Nat)(lv:Value){sv:List Int}(cs:List CurE)(hs:sv.length=4){n:Nat}(hn:n<cs.length)(c:CurE):lay (aN o lv sv cs).toList (6+n*27) c.cells=(aN o lv sv (cs.set n c)).toList:=by
 have e:∀cs:List CurE,(aN o lv sv cs).toList=((.pointer (some ⟨o,0,none⟩)::lv::sv.map (Value.int .i64))++cs.flatMap CurE.cells):=fun cs=>rfl;rw [e,e,show 6+n*27=(Value.pointer (some ⟨o,0,none⟩)::lv::sv.map (Value.int .i64)).length+n*27 by simp [hs],ll,lY CurE.len hn]
theorem iF (o:Nat)(lv:Value){sv:List Int}{cs:List CurE}(hs:sv.length=4){n j:Nat}{c:CurE}{v:Value}(hn:cs[n]?=some c)(hj:c.cells[j]?=some v):(aN o lv sv cs)[6+(n*27+j)]?=some v:=by
 have e:(aN o lv sv cs)=((.pointer (some ⟨o,0,none⟩)::lv::sv.map (Value.int .i64))++cs.flatMap CurE.cells).toArray:=rfl;rw [e,List.getElem?_toArray,Gb (by simp [hs])];simp only [List.length_cons,FZ,hs];rw [show 6+(n*27+j)-(4+1+1)=n*27+j by omega];exact bB CurE.len cs n c hn j v hj
section
variable {B w : World} {D : PH} {x o n : Nat} {X : TxM} {l : List HP} {m : CurM}
theorem u5' (h:TxIn B w D x o X l)(hm:X.curs[n]?=some m):∃c:CurE,qA D c m∧(∀j v,c.cells[j]?=some v→w.cell? ⟨x,6+(n*27+j),none⟩=some v)∧∀j,w.frozen? ⟨x,j,none⟩=false:=by
 obtain⟨H,hH,hs⟩:=h;have hl:n<H.cs.length:=by rw [hH.curs.len];exact(FO.1 hm).1
 have hc:H.cs[n]?=some H.cs[n]:=FP hl;obtain⟨m',hm',hok⟩:=hH.curs.get hc;rw [hm]at hm';cases hm';have hb:=hs.blk 0 rfl;refine⟨H.cs[n],hok,fun j v hj=>?_,fun j=>by simp [World.frozen?,hb]⟩;simp only [World.cell?,hb];exact iF o H.lv hH.saves hc hj
theorem gc {P:Program}{ops:Array Oper}{rest:List Oper}{oo:Oper}{a:Act}{Q:Exit→Act→World→Prop}(hgd:oo.guard=none)(ty:TypeId)(xo yo:Operand)(ho:oo.op = .store ty xo yo)(off:Nat)(hx:a.eval xo = .pointer (some ⟨x,off,none⟩))(hoff:off=6+n*27)(c:CurE)(hy:a.eval yo = .agg c.cells.toArray)
  (hs:TxIn B w D x o X l) (hn:n<3) (hok:qA D c m) (hi:(P.info? ty).map (·.size)=some 27)
  (h:∀w',TxIn B w' D x o { X with curs:=X.curs.set n m } l→wpList P ops Q rest (a.put oo.dst undef) w'):wpList P ops Q (oo::rest) a w:=by
 subst hoff;obtain⟨H,hH,hs⟩:=hs;have hl:n<H.cs.length:=by rw [hH.curs.len,hH.three];exact hn
 refine cZ hgd ty xo yo ho tTx x (6+n*27) hx c.cells hy (aN o H.lv X.saves H.cs).toList (by rw [Array.toArray_toList];exact hs) (by rw [CurE.len];exact hi) ?_ (CurE.one c) (fun w' hs'=>h w' ?_)
 ·rw [CurE.len]
  have e:(aN o H.lv X.saves H.cs).toList.length=6+H.cs.length*27:=by
   show((.pointer (some ⟨o,0,none⟩)::H.lv::(X.saves.map (Value.int .i64)++H.cs.flatMap CurE.cells)):List Value).length=_;rw [List.length_cons,List.length_cons,FR,FZ,hH.saves,cH CurE.len];omega
  rw [e];omega
 ·rw [pV o H.lv H.cs hH.saves hl c]at hs'
  exact⟨⟨H.lv,H.es,H.cs.set n c⟩,⟨hH.log,hH.curs.set hok n,hH.saves,by rw [FV];exact hH.three,hH.small⟩,by rw [Array.toArray_toList]at hs';exact hs'⟩
end
def TxM.close (X:TxM)(s:StmM):TxM×AnsM:=if (X.cur s.cursor).opn then (X.setCur s.cursor kT,bJ 0)else (X,bJ 161)
def fN : CurE:=⟨false,false,false,0,⟨0,0,⟨false,0,⟨#[]⟩⟩,⟨false,0,⟨#[]⟩⟩,none,0,0,[]⟩,bj,⟨false,0,⟨#[]⟩⟩⟩
theorem jX (D:PH):qA D fN kT:=⟨rfl,rfl,rfl,rfl,rfl,rfl,rfl,.mk _ [] (RdP.nil _ _) (by simp)⟩
theorem py {X:TxM}{n:Nat}{m:CurM}(h:X.curs[n]?=some m):X.cur (n:Int)=m:=by
 unfold TxM.cur;rw [F6,FW,h];rfl
theorem rC {B w:World}{D:PH}{x o n:Nat}{X:TxM}{l:List HP}{e:StmE}{s:StmM}{m:CurM}(hs:StmOk D e s)(hi:s.cursor=(n:Int))(hn:n<3)(hm:X.curs[n]?=some m)(h:TxIn B w D x o X l) :
  Calls Tryz.prog 79 #[.pointer (some ⟨x,0,none⟩),.agg e.cells.toArray] w (et B D x o l (X.close s)):=by
 obtain⟨W0,hW0,h2⟩:=ej h e.cells.toArray aZ tSt aL;have xh:=FH hW0;obtain⟨c,hc,hcell,cf⟩:=u5' h2 hm;have d0:=hcell 0 _ rfl;rw [Nat.add_zero]at d0;have wS:=FH h2;have Aa:=FH (show e.cursor=(n:Int)from hs.cursor.trans hi);have zS:=FH (show X.close s=if m.opn then ({ X with curs:=X.curs.set n kT },bJ 0)else (X,bJ 161) by unfold TxM.close;rw [hi,py hm];rfl);have zb:=FH hc.1;have D0:=FH d0;have CF:=FH cf;have hn3:(n:Int)<3:=by omega
 have HN:=FH hn;clear h hs hi hW0 h2 hcell hc hm d0 cf;go_enter Tryz.func79,Tryz.ntmps79;go_upto_region 1 with fail
 rw [←xh.out];clear xh;generalize w.heap.size+1=ba at wS ⊢;generalize w.heap.size=bs at wS ⊢;obtain⟨x0,x2,x3,x4,x5,x6,x7,x17,x18,x19⟩:=aO (wS.out.sat.blk 1 rfl);rw [Aa.out]at x18;have d0:=D0.out;refine aH [rq 0 999,rq 1 999,rq 2 999,rq 3 999,rq 4 999,rq 5 999,rq 6 999,rq 7 999,rq 8 999] ?_;iterate 9 (refine ae rfl rfl fun K hK=>?_;go_simp;apply hK;clear hK K)
 refine ag ?_;have wG:=FH (wS.out.kept (Kept.refl (fun _=>False) W0).drew);clear wS d0 D0 CF x0 x2 x3 x4 x5 x6 x7 x17 x18 x19;generalize W0.drew=W1 at wG ⊢;cases hop:m.opn with
 | false =>
  rw [zb.out,hop];have HE:=FH (show X.close s=(X,bJ 161) by rw [zS.out,hop];rfl);clear hop;go_wp2_with (refine ay rfl _ _ _ rfl aL ba rfl [.int .i64 161,.slice none 0 0,.int .i64 0] rfl aZ wG.out (by kernel_rfl) rfl (by intro u hu;simp at hu;rcases hu with rfl|rfl|rfl<;>rfl) ?_;intro w6 hs6;have wK:=FH hs6;clear hs6 wG);refine bodyPost_ret (av rfl _ _ rfl (aJ rfl (aj (wK.out.sat.blk 0 rfl)))) rfl ?_;rw [HE.out];exact⟨none,0,0,D,rfl,PH.le.refl _,RowsF.nil _,wK.out.drop.drop⟩
 | true =>
  rw [zb.out,hop];have HE:=FH (show X.close s=({ X with curs:=X.curs.set n kT },bJ 0) by rw [zS.out,hop];rfl);clear hop;obtain⟨x0,x2,x3,x4,x5,x6,x7,x17,x18,x19⟩:=aO (wG.out.sat.blk 1 rfl);rw [Aa.out]at x18;go_upto_region 3 with fail
  refine aH [rq 0 7,rq 1 7,rq 2 7,rq 3 7,rq 4 7,rq 5 7,rq 6 7,(7,true,0)] ?_;iterate 7 (refine ae rfl rfl fun K hK=>?_;go_simp;apply hK;clear hK K)
  refine af rfl ?_;refine gc (n:=n) rfl _ _ _ rfl _ rfl rfl fN rfl (wG.out.kept (Kept.refl (fun _=>False) W1).drew) HN.out (jX D) (by kernel_rfl) ?_;intro w3 htx3;refine wpList_nil ?_;have wI:=FH htx3;clear htx3 wG x0 x2 x3 x4 x5 x6 x7 x17 x18 x19;apply And.intro
  ·go_simp
  refine ag ?_;go_wp2_with (refine ay rfl _ _ _ rfl aL ba rfl [.int .i64 0,.slice none 0 0,.int .i64 0] rfl aZ wI.out (by kernel_rfl) rfl (by intro u hu;simp at hu;rcases hu with rfl|rfl|rfl<;>rfl) ?_;intro w6 hs6;have wK:=FH hs6;clear hs6 wI);refine bodyPost_ret (av rfl _ _ rfl (aJ rfl (aj (wK.out.sat.blk 0 rfl)))) rfl ?_;rw [HE.out];exact⟨none,0,0,D,rfl,PH.le.refl _,RowsF.nil _,wK.out.drop.drop⟩
def TxM.opens (X:TxM)(s:StmM):TxM×AnsM:=(X.setCur s.cursor ⟨true,s.change,false,s.table,s.pred,bj,default⟩,bJ 0)
theorem bR {w:World}{b:Nat}{x:StmE}{t:TypeId}{fr:Nat×Nat}(h:w.heap[b]?=some (.cells x.cells.toArray t fr)) :
  w.cell? ⟨b,8,none⟩=some (.int .i64 x.pe.op)∧w.cell? ⟨b,9,none⟩=some (.int .i64 x.pe.col)∧w.cell? ⟨b,10,none⟩=some (.bool x.pe.v.t)∧w.cell? ⟨b,11,none⟩=some (.int .i64 x.pe.v.n)∧w.cell? ⟨b,12,none⟩=some (.string x.pe.v.s) ∧
   w.cell? ⟨b,13,none⟩=some (.bool x.pe.w.t)∧w.cell? ⟨b,14,none⟩=some (.int .i64 x.pe.w.n)∧w.cell? ⟨b,15,none⟩=some (.string x.pe.w.s)∧w.cell? ⟨b,16,none⟩=some (.slice x.pe.la x.pe.ln x.pe.lc):=by
 refine⟨?_,?_,?_,?_,?_,?_,?_,?_,?_⟩<;>simp [World.cell?,h,StmE.cells]
def curE1 (e:StmE):CurE:=⟨true,e.change,false,e.table,e.pe,bj,⟨false,0,⟨#[]⟩⟩⟩
theorem tz {B w:World}{D:PH}{x o n:Nat}{X:TxM}{l:List HP}{e:StmE}{s:StmM}(hs:StmOk D e s)(hi:s.cursor=(n:Int))(hn:n<3)(h:TxIn B w D x o X l) :
  Calls Tryz.prog 77 #[.pointer (some ⟨x,0,none⟩),.agg e.cells.toArray] w (et B D x o l (X.opens s)):=by
 obtain⟨W0,hW0,h2⟩:=ej h e.cells.toArray aZ tSt aL;have xh:=FH hW0;have wS:=FH h2;have Aa:=FH (show e.cursor=(n:Int)from hs.cursor.trans hi);have zS:=FH (show X.opens s=({ X with curs:=X.curs.set n ⟨true,s.change,false,s.table,s.pred,bj,default⟩ },bJ 0) by unfold TxM.opens;rw [hi];rfl);have yn:=FH (show qA D (curE1 e) ⟨true,s.change,false,s.table,s.pred,bj,default⟩from⟨rfl,hs.change,rfl,hs.table,hs.pred,rfl,rfl,hs.subs⟩);have hn3:(n:Int)<3:=by omega
 have HN:=FH hn;clear h hs hi hW0 h2;go_enter Tryz.func77,Tryz.ntmps77;go_upto_region 1 with fail
 rw [←xh.out];clear xh;generalize w.heap.size+1=ba at wS ⊢;generalize w.heap.size=bs at wS ⊢;obtain⟨x0,x2,x3,x4,x5,x6,x7,x17,x18,x19⟩:=aO (wS.out.sat.blk 1 rfl);rw [Aa.out]at x18;obtain⟨z0,z1,z2,z3,z4,z5,z6,z7,z8⟩:=bR (wS.out.sat.blk 1 rfl);refine aH [rq 0 13,rq 1 13,rq 2 13,rq 3 13,rq 4 13,rq 5 13,rq 6 13,rq 7 13,rq 8 13,rq 9 13,rq 10 13,rq 11 13,rq 12 13,(13,true,0)] ?_;iterate 13 (refine ae rfl rfl fun K hK=>?_;go_simp;apply hK;clear hK K)
 refine af rfl ?_;refine gc (n:=n) rfl _ _ _ rfl _ rfl rfl (curE1 e) rfl (wS.out.kept (Kept.refl (fun _=>False) W0).drew) HN.out yn.out (by kernel_rfl) ?_;intro w3 htx3;refine wpList_nil ?_;have wI:=FH htx3;clear htx3 wS x0 x2 x3 x4 x5 x6 x7 x17 x18 x19 z0 z1 z2 z3 z4 z5 z6 z7 z8;apply And.intro
 ·go_simp
 refine ag ?_;go_wp2_with (refine ay rfl _ _ _ rfl aL ba rfl [.int .i64 0,.slice none 0 0,.int .i64 0] rfl aZ wI.out (by kernel_rfl) rfl (by intro u hu;simp at hu;rcases hu with rfl|rfl|rfl<;>rfl) ?_;intro w6 hs6;have wK:=FH hs6;clear hs6 wI);refine bodyPost_ret (av rfl _ _ rfl (aJ rfl (aj (wK.out.sat.blk 0 rfl)))) rfl ?_;rw [zS.out];exact⟨none,0,0,D,rfl,PH.le.refl _,RowsF.nil _,wK.out.drop.drop⟩
@[go_sem] theorem sizeCur (x:CurE):x.cells.toArray.size=27:=rfl
theorem sw {w:World}{g o:Nat}{x:CurE}(h:w.rangeAt g o x.cells):(loadVar vL ⟨g,o,none⟩).run Tryz.prog w = .ok (.agg x.cells.toArray) w:=run_loadVar_mid w g o _ _ _ h Tryz.underlying94 rfl (by kernel_rfl)
theorem u4' {w:World}{b:Nat}{x:CurE}{t:TypeId}{fr:Nat×Nat}(h:w.heap[b]?=some (.cells x.cells.toArray t fr)) :
  w.cell? ⟨b,0,none⟩=some (.bool x.opn)∧w.cell? ⟨b,1,none⟩=some (.bool x.change)∧w.cell? ⟨b,2,none⟩=some (.bool x.stands)∧w.cell? ⟨b,3,none⟩=some (.int .i64 x.table) ∧
   w.cell? ⟨b,24,none⟩=some (.bool x.key.t)∧w.cell? ⟨b,25,none⟩=some (.int .i64 x.key.n)∧w.cell? ⟨b,26,none⟩=some (.string x.key.s):=by
 refine⟨?_,?_,?_,?_,?_,?_,?_⟩<;>(rw [cell_of_row w b _ _ _ _ h];rfl)
structure TabAt (X:TxM)(i:Nat)(c:List Bool)(m:aq):Prop where
 tab:X.tabs[i]?=some m
 col:X.cols[i]?=some c
 well:TabI c m
 len:m.length≤200
theorem txAt_ok {B w:World}{D:PH}{x o n:Nat}{X:TxM}{l:List HP}{e:StmE}{s:StmM}{m:CurM}(hs:StmOk D e s)(hi:s.cursor=(n:Int))(hn:n<3)(hm:X.curs[n]?=some m)
  (hcur:m.opn=true→m.stands=true→∃i c mt,m.table=((i:Nat):Int)∧TabAt X i c mt∧am m.key=true) (hb:X.log.length+1≤10000) (h:TxIn B w D x o X l) :
  Calls Tryz.prog 80 #[.pointer (some ⟨x,0,none⟩),.agg e.cells.toArray] w (et B D x o l (X.at_ s)):=by
 obtain⟨W0,hW0,h2⟩:=ej h e.cells.toArray aZ tSt aL;have xh:=FH hW0;obtain⟨c,hc,hcell,cf⟩:=u5' h2 hm;have yy:=FH (show ∀W,Kept (fun _=>False) W0 W→∀j v,c.cells[j]?=some v→W.cell? ⟨x,6+n*27+j,none⟩=some v from fun W k j v hv=>by
  have:=hcell j v hv;rw [←Nat.add_assoc]at this;exact k.cell' this (fun h=>h))
 have wS:=FH h2;have wR:=FH hs;have Aa:=FH (show e.cursor=(n:Int)from hs.cursor.trans hi);have yA:=FH (show X.cur s.cursor=m by rw [hi];exact py hm);have B4:=FH hc;have BA:=FH hcur;have HB:=FH hb;have hn3:(n:Int)<3:=by omega
 clear h hs hi hW0 h2 hcell hc hm cf hcur hb hn;go_enter Tryz.func80,Tryz.ntmps80;go_upto_region 1 with fail
 rw [←xh.out];clear xh;generalize w.heap.size+1=ba at wS ⊢;generalize w.heap.size=bs at wS ⊢;obtain⟨x0,x2,x3,x4,x5,x6,x7,x17,x18,x19⟩:=aO (wS.out.sat.blk 1 rfl);rw [Aa.out]at x18;have AD:=FH (sw (yy.out W0.drew (Kept.refl (fun _=>False) W0).drew));refine aH [rq 0 8,rq 1 8,rq 2 8,rq 3 8,rq 4 8,rq 5 8,rq 6 8,(7,true,0),(8,true,0)] ?_;iterate 7 (refine ae rfl rfl fun K hK=>?_;(first|((refine bF _ _ rfl _ _ rfl _ AD.out ?_);go_simp)|go_simp);apply hK;clear hK K)
 refine af rfl ?_;refine wpList_plain rfl fun K hK=>?_;go_simp;refine hK _ _ ?_;clear hK K;refine wpList_nil ?_;clear x0 x2 x3 x4 x5 x6 x7 x17 x18 x19;have wG:=FH ((wS.out.alloc (Array.mk [.bool false,.bool false,.bool false,.int .i64 0,.int .i64 0,.int .i64 0,.bool false,.int .i64 0,.string ⟨#[]⟩,.bool false,.int .i64 0,.string ⟨#[]⟩,.slice none 0 0,.bool false,.bool false,.bool false,.bool false,.int .i64 0,.string ⟨#[]⟩,.bool false,.bool false,.bool false,.int .i64 0,.string ⟨#[]⟩,.bool false,.int .i64 0,.string ⟨#[]⟩]) vL).kept (Kept.refl (fun _=>False) _).drew);have wN:=FH (((Kept.refl (fun _=>False) W0).alloc (.cells (Array.mk [.bool false,.bool false,.bool false,.int .i64 0,.int .i64 0,.int .i64 0,.bool false,.int .i64 0,.string ⟨#[]⟩,.bool false,.int .i64 0,.string ⟨#[]⟩,.slice none 0 0,.bool false,.bool false,.bool false,.bool false,.int .i64 0,.string ⟨#[]⟩,.bool false,.bool false,.bool false,.int .i64 0,.string ⟨#[]⟩,.bool false,.int .i64 0,.string ⟨#[]⟩]) vL)).drew);obtain⟨W1,hW1⟩:∃W,W=(W0.alloc (.cells (Array.mk [.bool false,.bool false,.bool false,.int .i64 0,.int .i64 0,.int .i64 0,.bool false,.int .i64 0,.string ⟨#[]⟩,.bool false,.int .i64 0,.string ⟨#[]⟩,.slice none 0 0,.bool false,.bool false,.bool false,.bool false,.int .i64 0,.string ⟨#[]⟩,.bool false,.bool false,.bool false,.int .i64 0,.string ⟨#[]⟩,.bool false,.int .i64 0,.string ⟨#[]⟩]) vL)).drew:=⟨_,rfl⟩;rw [←hW1]at wG wN ⊢;clear hW1;generalize W0.heap.size=bc at wG ⊢;have AV:=FH (sw (yy.out W1 wN.out));obtain⟨x0,x2,x3,x4,x5,x6,x7,x17,x18,x19⟩:=aO (wG.out.sat.blk 2 rfl);rw [Aa.out]at x18;apply And.intro
 ·(refine And.intro (by(unfold Pend.ok;split<;>first|exact bF _ _ rfl _ _ rfl _ AV.out rfl|trivial)) ?_;go_simp)
 refine af rfl ?_;refine ay rfl _ _ _ rfl vL bc rfl c.cells rfl _ wG.out (by kernel_rfl) rfl (CurE.one c) ?_;intro w2 htx2;refine wpList_nil ?_;have wJ:=FH htx2;clear htx2 wG x0 x2 x3 x4 x5 x6 x7 x17 x18 x19;apply And.intro
 ·go_simp
 refine ag ?_;have wW:=FH (wJ.out.perm (List.Perm.swap _ _ _));clear wJ wS wN AD AV yy;obtain⟨q0,q1,q2,q3,q4,q5,q6⟩:=u4' (wW.out.sat.blk 1 rfl);rw [B4.out.1]at q0;rw [B4.out.2.1]at q1;rw [B4.out.2.2.1]at q2;rw [B4.out.2.2.2.1]at q3;rw [B4.out.2.2.2.2.2.2.1]at q4 q5 q6;by_cases hall:m.opn=true∧m.stands=true∧m.change=true
 ·obtain⟨h1,h2,h3⟩:=hall
  obtain⟨i,cc,mt,hti,hta,hkr⟩:=BA.out h1 h2;rw [h1]at q0;rw [h3]at q1;rw [h2]at q2;rw [hti]at q3;have HE:=FH (show X.at_ s=if s.kind=16 then X.drop (i:Int) m.key else if !cG cc s.sets then (X,bJ 167)else X.one (i:Int) m.key s.sets by
   unfold TxM.at_;rw [yA.out,h1,h2,h3,hti,fF hta.col]
   rfl)
  have Ar:=FH hta;have yD:=FH hti;have zu:=FH hkr;clear h1 h2 h3 hti hta hkr;obtain⟨x0,x2,x3,x4,x5,x6,x7,x17,x18,x19⟩:=aO (wW.out.sat.blk 2 rfl);rw [wR.out.kind]at x0;by_cases h16:s.kind=16
  ·have As:=FH (show X.at_ s=X.drop (i:Int) m.key by rw [HE.out,if_pos h16])
   have HP:=FH (nO Ar.out.tab zu.out HB.out wW.out);rw [h16]at x0;clear h16;go_wp2_with (first|(go_at_call 96;refine HP.out.mono ?_;rintro e2 w3 ⟨ra,rn,rc,D2,rfl,hle,hrw,hs3⟩;have wU:=FH hle;have xg:=FH hrw;have xR:=FH hs3;clear hle hrw hs3 HP wW x0 x2 x3 x4 x5 x6 x7 x17 x18 x19 q0 q1 q2 q3 q4 q5 q6)|(refine ay rfl _ _ _ rfl aL ba rfl [_,.slice ra rn rc,_] rfl aZ xR.out (by kernel_rfl) rfl (by intro u hu;simp at hu;rcases hu with rfl|rfl|rfl<;>rfl) ?_;intro w6 hs6;have wK:=FH hs6;clear hs6 xR));refine bodyPost_ret (av rfl _ _ rfl (aJ rfl (aj (wK.out.sat.blk 0 rfl)))) rfl ?_;rw [As.out];exact⟨ra,rn,rc,D2,rfl,wU.out,xg.out,wK.out.drop.drop.drop⟩
  ·have h16b:(s.kind == 16)=false:=by simpa using h16
   obtain⟨g,og,cap,cv,c0,d0,dc,hcol⟩:=oq wW.out Ar.out.col;have hlc:(i:Int)<(X.cols.length:Int):=by have:=(FO.1 Ar.out.col).1;omega
   have xF:=FH (ig (RdP.rd hcol wW.out.sat.drew) (RdP.rd wR.out.sets.1 wW.out.sat.drew));have yI:=FH wR.out.sets;obtain⟨sv,hsv⟩:∃v,e.sets.v=v:=⟨_,rfl⟩;obtain⟨sa,sn,sc,hsv2⟩:∃a n c,sv = .slice a n c:=⟨_,_,_,hsv.symm⟩;subst hsv2;have hsv0:=FH hsv;rw [hsv]at x7 xF yI;have Dw:=FH (show X.at_ s=if !cG cc s.sets then (X,bJ 167)else X.one (i:Int) m.key s.sets by rw [HE.out,if_neg h16]);generalize X.cols.length=CN at *;clear hcol hsv;go_upto_region 8 with fail
   cases hst:cG cc s.sets with
   | false =>
    have At:=FH (show X.at_ s=(X,bJ 167) by rw [Dw.out,hst];rfl);have hse:eK cc s.sets=20∨eK cc s.sets=1:=by unfold eK;rw [hst];cases cj cc<;>simp
    clear hst;rcases hse with hse|hse
    all_goals
     rw [hse]at xF;clear hse;refine aH [rq 0 13,rq 1 13,rq 2 13,rq 3 13,rq 4 13,rq 5 13,rq 6 13,rq 7 13,rq 8 13,rq 9 13,rq 10 13,rq 11 13,rq 12 13,(13,true,0),rq 14 999,rq 15 999] ?_;(iterate 13 (refine ae rfl rfl fun K hK=>?_;go_simp;apply hK;clear hK K));refine af rfl ?_;refine al rfl fun K hK=>?_;go_simp;refine xF.out.mono ?_;rintro e2 w3 ⟨rfl,hk3⟩;have xR:=FH ((wW.out.kept (Kept.refl (fun _=>False) _).drew).kept hk3);clear hk3 xF wW c0 d0 dc x0 x2 x3 x4 x5 x6 x7 x17 x18 x19 q0 q1 q2 q3 q4 q5 q6;refine hK _ _ ?_;clear hK K;refine wpList_nil ?_;apply And.intro
     ·go_simp
     (iterate 2 (refine ae rfl rfl fun K hK=>?_;go_simp;apply hK;clear hK K));refine ag ?_
     go_wp2_with (refine ay rfl _ _ _ rfl aL ba rfl [.int .i64 167,.slice none 0 0,.int .i64 0] rfl aZ xR.out (by kernel_rfl) rfl (by intro u hu;simp at hu;rcases hu with rfl|rfl|rfl<;>rfl) ?_;intro w6 hs6;have wK:=FH hs6;clear hs6 xR);refine bodyPost_ret (av rfl _ _ rfl (aJ rfl (aj (wK.out.sat.blk 0 rfl)))) rfl ?_;rw [At.out];exact⟨none,0,0,D,rfl,PH.le.refl _,RowsF.nil _,wK.out.drop.drop.drop⟩
   | true =>
    have At:=FH (show X.at_ s=X.one (i:Int) m.key s.sets by rw [Dw.out,hst];rfl);have hse:eK cc s.sets=0:=by
     have hmy:cj cc=true:=by unfold cG at hst;simp at hst;exact hst.1.1.1
     unfold eK;rw [hmy,hst];rfl
    clear hst;rw [hse]at xF;clear hse;refine aH [rq 0 13,rq 1 13,rq 2 13,rq 3 13,rq 4 13,rq 5 13,rq 6 13,rq 7 13,rq 8 13,rq 9 13,rq 10 13,rq 11 13,rq 12 13,(13,true,0),rq 14 999,rq 15 999] ?_;(iterate 13 (refine ae rfl rfl fun K hK=>?_;go_simp;apply hK;clear hK K));refine af rfl ?_;refine al rfl fun K hK=>?_;go_simp;refine xF.out.mono ?_;rintro e2 w3 ⟨rfl,hk3⟩;have xR:=FH ((wW.out.kept (Kept.refl (fun _=>False) _).drew).kept hk3);clear hk3 xF wW c0 d0 dc x0 x2 x3 x4 x5 x6 x7 x17 x18 x19 q0 q1 q2 q3 q4 q5 q6;refine hK _ _ ?_;clear hK K;refine wpList_nil ?_;apply And.intro
    ·go_simp
    (iterate 2 (refine ae rfl rfl fun K hK=>?_;go_simp;apply hK;clear hK K));refine ag ?_
    have HP:=FH (qm (k:=m.key) Ar.out.tab Ar.out.col Ar.out.well Ar.out.len yI.out HB.out xR.out);obtain⟨q0,q1,q2,q3,q4,q5,q6⟩:=u4' (xR.out.sat.blk 1 rfl);rw [B4.out.2.2.2.1,yD.out]at q3;rw [B4.out.2.2.2.2.2.2.1]at q4 q5 q6;obtain⟨x0,x2,x3,x4,x5,x6,x7,x17,x18,x19⟩:=aO (xR.out.sat.blk 2 rfl);rw [hsv0.out]at x7;go_wp2_with (first|(go_at_call 95;refine HP.out.mono ?_;rintro e2 w3 ⟨ra,rn,rc,D2,rfl,hle,hrw,hs3⟩;have wU:=FH hle;have xg:=FH hrw;have x9:=FH hs3;clear hle hrw hs3 HP xR x0 x2 x3 x4 x5 x6 x7 x17 x18 x19 q0 q1 q2 q3 q4 q5 q6)|(refine ay rfl _ _ _ rfl aL ba rfl [_,.slice ra rn rc,_] rfl aZ x9.out (by kernel_rfl) rfl (by intro u hu;simp at hu;rcases hu with rfl|rfl|rfl<;>rfl) ?_;intro w6 hs6;have wK:=FH hs6;clear hs6 x9));refine bodyPost_ret (av rfl _ _ rfl (aJ rfl (aj (wK.out.sat.blk 0 rfl)))) rfl ?_;rw [At.out];exact⟨ra,rn,rc,D2,rfl,wU.out,xg.out,wK.out.drop.drop.drop⟩
 ·have HE:=FH (show X.at_ s=(X,bJ 161) by
   unfold TxM.at_;rw [yA.out];refine if_pos ?_;cases h1:m.opn<;>cases h2:m.stands<;>cases h3:m.change<;>first|rfl|exact absurd ⟨h1,h2,h3⟩ hall)
  cases h1:m.opn
  ·rw [h1]at q0
   clear hall h1;go_wp2_with (refine ay rfl _ _ _ rfl aL ba rfl [.int .i64 161,.slice none 0 0,.int .i64 0] rfl aZ wW.out (by kernel_rfl) rfl (by intro u hu;simp at hu;rcases hu with rfl|rfl|rfl<;>rfl) ?_;intro w6 hs6;have wK:=FH hs6;clear hs6 wW);refine bodyPost_ret (av rfl _ _ rfl (aJ rfl (aj (wK.out.sat.blk 0 rfl)))) rfl ?_;rw [HE.out];exact⟨none,0,0,D,rfl,PH.le.refl _,RowsF.nil _,wK.out.drop.drop.drop⟩
  ·cases h2:m.stands
   ·rw [h1]at q0
    rw [h2]at q2;clear hall h1 h2;go_wp2_with (refine ay rfl _ _ _ rfl aL ba rfl [.int .i64 161,.slice none 0 0,.int .i64 0] rfl aZ wW.out (by kernel_rfl) rfl (by intro u hu;simp at hu;rcases hu with rfl|rfl|rfl<;>rfl) ?_;intro w6 hs6;have wK:=FH hs6;clear hs6 wW);refine bodyPost_ret (av rfl _ _ rfl (aJ rfl (aj (wK.out.sat.blk 0 rfl)))) rfl ?_;rw [HE.out];exact⟨none,0,0,D,rfl,PH.le.refl _,RowsF.nil _,wK.out.drop.drop.drop⟩
   ·cases h3:m.change
    ·rw [h1]at q0
     rw [h2]at q2;rw [h3]at q1;clear hall h1 h2 h3;go_wp2_with (refine ay rfl _ _ _ rfl aL ba rfl [.int .i64 161,.slice none 0 0,.int .i64 0] rfl aZ wW.out (by kernel_rfl) rfl (by intro u hu;simp at hu;rcases hu with rfl|rfl|rfl<;>rfl) ?_;intro w6 hs6;have wK:=FH hs6;clear hs6 wW);refine bodyPost_ret (av rfl _ _ rfl (aJ rfl (aj (wK.out.sat.blk 0 rfl)))) rfl ?_;rw [HE.out];exact⟨none,0,0,D,rfl,PH.le.refl _,RowsF.nil _,wK.out.drop.drop.drop⟩
    ·exact absurd ⟨h1,h2,h3⟩ hall
end Go.Proofs.YtdobimafhbfkhaaGreat
