/- Joined texts: Rows are changed, all or none (txn.all). A row is changed by its key (txn.one, txn.update). A row is changed by a statement's key (txn.update). Cursors of a transaction. A cursor is closed (txn.close). A cursor is opened (txn.open). -/
import Derived.Test.YtdobimafhbfkhaaGreatOB32
import Derived.Laws.MakeOwn
set_option maxHeartbeats 64000000
namespace Go.Proofs.YtdobimafhbfkhaaGreat
open Go.ChangeShapes Go.WideShapes Go.ChangeAt Go.RowKit
set_option maxRecDepth 100000
set_option linter.unusedSimpArgs false
theorem nU : (Tryz.prog.info? tW).map (fun i=>(i.zero,i.size,i.bytes))=some (some (.slice none 0 0),1,24):=by kernel_rfl
theorem sJ {B w:World}{D:PH}{x o:Nat}{X:TxM}{l:List HP}(h:TxIn B w D x o X l){e:TypeId}{cap:Nat}{cs:Array Value}(hc:cap≤maxLen)(hz:cap*1≤cs.size):TxIn B (w.alloc (.cells cs e)) D x o X (aC e 1 (.slice (some ⟨w.heap.size,0,none⟩) 0 cap) 0 []::l):=by
 obtain⟨H,h1,hs⟩:=h
 have h2:=hs.own_fresh (e:=e) (size:=1) (n:=0) (cap:=cap) (cs:=cs) (xs:=[]) (Nat.zero_le _) hc hz (by simp) (by simp)
 exact⟨H,h1,(h2.perm (List.perm_middle (l₁:=txL D x o X H) (l₂:=l)).symm)⟩
theorem fz {P:Program}{B:World}{D:PH}{xb ob:Nat}{X:TxM}{l:List HP}(w:World){ops:Array Oper}{rest:List Oper}{o:Oper}{a:Act}{Q:Exit→Act→World→Prop}(hgd:o.guard=none)(s x:Operand)(t:TypeId)
  (ho:o.op = .call { callee:=.builtin .append,args:=#[s,x],argTypes:=#[t,t] })
  (e:TypeId) (i:TypeInfo) (z:Value) (size bytes:Nat) (ht:P.underlying t=some (.slice e)) (hi:P.info? e=some i) (hz:i.zero=some z)
  (hsize:i.size=size) (hby:i.bytes=bytes) (hzs:z.cells.size=size)
  (v:Value) (n:Nat) (xs:List Value) (hv:a.eval s=v) (hs:TxIn B w D xb ob X (aC e size v n xs::l)) (xv:Value) (m:Nat) (news:List Value) (hx:a.eval x=xv) (hrd:Rd w size xv m news) (h1:∀u∈news,u.oneCell'=true)
  (h63:n+m≤maxLen) (hbytes:(n+m)*bytes≤140737488355328)
  (h:∀ra rc w',TxIn B w' D xb ob X (aC e size (.slice ra (n+m) rc) (n+m) (xs++news)::l)→wpList P ops Q rest (a.put o.dst (.slice ra (n+m) rc)) w'):wpList P ops Q (o::rest) a w:=by
 obtain⟨H,hH,hs⟩:=hs
 refine aF w hgd s x t ho e i z size bytes ht hi hz hsize hby hzs v n xs hv (hs.perm (List.perm_middle (l₁:=txL D xb ob X H) (a:=aC e size v n xs) (l₂:=l))) xv m news hx hrd h1 h63 hbytes (fun v' w' hs' _=>?_)
 obtain⟨ra,rc,rfl⟩:=hs'.own_shape
 exact h ra rc w' ⟨H,hH,hs'.perm (List.perm_middle (l₁:=txL D xb ob X H) (a:=aC e size (.slice ra (n+m) rc) (n+m) (xs++news)) (l₂:=l)).symm⟩
theorem lk {X:TxM}{i:Nat}{c:List Bool}(h:X.cols[i]?=some c):X.col (i:Int)=c:=by
 unfold TxM.col
 rw [Int.toNat_natCast,List.getD_eq_getElem?_getD,h];rfl
theorem kO {B w:World}{D:PH}{x o:Nat}{X:TxM}{l:List HP}{e:TypeId}{size n:Nat}{v:Value}{xs:List Value}(h:TxIn B w D x o X (aC e size v n xs::l)):∃D',PH.le D D'∧RdP D' size v n xs∧TxIn B w D' x o X l:=by
 obtain⟨H,hH,hs⟩:=h
 obtain⟨D',hle,hrd,hs2⟩:=(hs.perm (List.perm_middle (l₁:=txL D x o X H) (l₂:=l))).own_give
 exact⟨D',hle,hrd,jQ hH hle hs2⟩
theorem FreshD.fit {D:PH}{hs:List Value}{fr:ar}(h:FreshD D hs fr):∀q∈fr,bD q:=by
 induction h with
 | nil=>intro q hq;cases hq
 | cons hab _ ih =>
  intro q hq
  rcases List.mem_cons.1 hq with rfl|hq
  ·exact hab.2
  ·exact ih q hq
def tB (c:List Bool)(m:ar)(fr:ar):Prop:=∀q∈fr,bw c q=true∧(aU m (aG q)).isSome=true
theorem nR {B w:World}{D:PH}{x o i:Nat}{X:TxM}{l:List HP}{m:ar}{c:List Bool}{rs:ar}{sets:List SetM}{lv sv:Value}(hm:X.tabs[i]?=some m)(hc:X.cols[i]?=some c)(hI:TabI c m)(hml:m.length≤200)
  (hrs:∀r∈rs,bw c r=true∧(aU m (aG r)).isSome=true) (hrd:RowsF D lv rs) (hset:SetsF D sv sets) (hn:rs.length≤200) (hb:X.log.length+rs.length≤10000) (h:TxIn B w D x o X l) :
  Calls Tryz.prog 97 #[.pointer (some ⟨x,0,none⟩),.int .i64 i,lv,sv] w (dV B D x o l (X.all i rs sets)):=by
 obtain⟨i0,hi,hz0,hz1,hz2⟩:=info_parts nU
 obtain⟨N,hN⟩:∃N,rs.length=N:=⟨_,rfl⟩
 obtain⟨W0,hW0,h0⟩:∃W,W=w.alloc (.cells aZ bq)∧TxIn B W D x o X (blk w.heap.size aZ bq::l):=⟨_,rfl,h.alloc aZ bq⟩
 have ul:=B5 hW0
 obtain⟨us,hu1,hu2,hu3,hu4⟩:=hrd.1
 obtain⟨la,lc,rfl⟩:=hu3.shape
 have xg:=B5 (show RdP D 1 (.slice la N lc) N us from hN▸hu3)
 rw [hN]at hn hb ⊢
 have tO:=B5 h0
 clear hW0 h h0 hu3
 go_enter Tryz.func97,Tryz.ntmps97
 go_upto_region 1 with fail
 rw [←ul.out]
 clear ul
 generalize w.heap.size=ba at tO ⊢
 have hmk:(Instr.makeSlice 55 (.int .i64 0) (.int .i64 (N:Int))).run Tryz.prog W0 = .ok (.slice (some ⟨W0.heap.size,0,none⟩) 0 N) (W0.alloc (.cells (Go.madeCells #[.slice none 0 0] (N*i0.size)) tW)) :=
  Go.run_make (P:=Tryz.prog) W0 55 tW i0 (.slice none 0 0) Tryz.underlying55 hi hz0 .i64 .i64 0 (N:Int) (by omega) (by omega) (by rw [hz2];omega) (by omega)
 have hs1:=sJ tO.out (e:=tW) (cap:=N) (cs:=Go.madeCells #[.slice none 0 0] (N*i0.size)) (by unfold maxLen;omega) (by rw [Go.size_madeCells,hz1];omega)
 obtain⟨W1,hW1⟩:∃W,W=W0.alloc (.cells (Go.madeCells #[.slice none 0 0] (N*i0.size)) tW):=⟨_,rfl⟩
 rw [←hW1]at hmk hs1
 generalize W0.heap.size=bf at hmk hs1
 have tD:=B5 hs1
 have HI:=B5 (And.intro hi (And.intro hz0 (And.intro hz1 hz2)))
 have HN:=B5 hN
 have zV:=B5 hrs
 have HM:=B5 hm
 have HC:=B5 hc
 have vB:=B5 hI
 have xu:=B5 hml
 have vC:=B5 hset
 have tM:=B5 hrd
 have HU:=B5 (And.intro hu1 (And.intro hu2 hu4))
 clear hi hz0 hz1 hz2 hW1 hs1 tO hN hrs hm hc hI hml hset hrd hu1 hu2 hu4
 go_upto_region 2 with fail
 clear hmk
 go_wp2_with fail
 go_loopw [9,21] (fun fv idx wr=>∃(j:Nat) (fa:Option Addr) (fc:Nat) (hs:List Value) (fr:ar) (D':PH),idx = .int .i64 j∧j≤N∧fv = .slice fa j fc∧cz c sets (rs.take j) []=(fr,0)∧tB c m fr∧(∀u∈hs,u.oneCell'=true)∧FreshD D' hs fr∧PH.le D D'∧TxIn B wr D' x o X (aC tW 1 (.slice fa j fc) j hs::blk ba aZ bq::l)) (fun _ idx _=>N-(intOf idx).toNat)
 case atStart=>exact⟨0,some ⟨bf,0,none⟩,N,[],[],D,rfl,Nat.zero_le _,rfl,rfl,(fun q hq=>by cases hq),(fun u hu=>by cases hu),.nil,PH.le.refl _,tD.out⟩
 case round =>
  obtain⟨j,fa,fc,hs,fr,D2,rfl,hj,rfl,hup,hfm,hone,hfd,hle,htx⟩:=hrel
  have Ab:=B5 hup
  have yP:=B5 hfm
  have BJ:=B5 hone
  have Ac:=B5 hfd
  have ub:=B5 hle
  have uu:=B5 htx
  clear hup hfm hone hfd hle htx tD
  by_cases hlt:j<N
  ·obtain⟨r,hr⟩:∃r,rs[j]?=some r:=⟨rs[j]'(by rw [HN.out];exact hlt),List.getElem?_eq_getElem _⟩
   obtain⟨u,hu⟩:∃u,us[j]?=some u:=⟨us[j]'(by rw [HU.out.1,HN.out];exact hlt),List.getElem?_eq_getElem _⟩
   have uB:=B5 (show rs.take (j+1)=rs.take j ++ [r] by rw [List.take_add_one,hr];rfl)
   have wG:=B5 (zV.out r (List.mem_of_getElem? hr))
   have wP:=B5 (show RowF D2 u r from⟨RdP.mono (HU.out.2.2 j u r hu hr) ub.out,tM.out.2 r (List.mem_of_getElem? hr)⟩)
   obtain⟨lg,lo,rfl,hcu⟩:∃lg lo,la=some ⟨lg,lo,none⟩∧wr.cell? ⟨lg,lo+j,none⟩=some u:=by
    obtain⟨_,_,ao,cap,hv,_,_,_,hcell⟩:=(xg.out.mono ub.out).rd uu.out.sat
    cases hv
    rcases hcell with h0|⟨g,og,hg,hcc⟩
    ·omega
    ·exact⟨g,og,hg,hcc j u hu⟩
   obtain⟨g,og,cap,cv,c0,d0,dc,hcol⟩:=lK uu.out HC.out
   have hlc:(i:Int)<(X.cols.length:Int):=by have:=(List.getElem?_eq_some_iff.1 HC.out).1;omega
   have xh:=B5 (rf uu.out hcol wP.out (vC.out.mono ub.out))
   have hji:(j:Int)<(N:Int):=by omega
   clear hr hu hcol
   generalize X.cols.length=CN at *
   by_cases he:(cG c r sets).2=0
   ·rw [he]at xh
    have HE:=B5 he
    clear he
    have AD:=B5 (show tB c m (fr ++ [(cG c r sets).1])from fun q hq=>by
     rcases List.mem_append.1 hq with hq|hq
     ·exact yP.out q hq
     ·obtain rfl:=List.mem_singleton.1 hq
      obtain⟨f1,f2,f3⟩:=mn wG.out.1 wP.out.2 vC.out.2 HE.out
      exact⟨f1,f3.symm▸wG.out.2⟩)
    have AE:=B5 (show cz c sets (rs.take (j+1)) []=(fr ++ [(cG c r sets).1],0) by rw [uB.out,gv r Ab.out,if_pos HE.out])
    go_upto_region 8 with (go_at_call 113;refine xh.out.mono ?_;rintro e2 w2 ⟨a2,n2,c2,D3,rfl,hle3,hrw3,htx3⟩;have ur:=B5 (ub.out.trans hle3);have xi:=B5 hle3;have xj:=B5 hrw3;have um:=B5 htx3;clear hle3 hrw3 htx3 xh uu c0 d0 dc hcu)
    have ht4:=(um.out.alloc #[.slice a2 n2 c2] tW).perm (List.Perm.swap _ _ _)
    have xl:=B5 (bM (size:=1) (n:=1) (au w2 (.cells #[.slice a2 n2 c2] tW)) rfl (by unfold maxLen;omega))
    have ux:=B5 ht4
    clear ht4 um
    go_wp2_with (at_builtin;refine fz _ rfl _ _ 55 rfl tW i0 _ 1 24 Tryz.underlying55 HI.out.1 HI.out.2.1 HI.out.2.2.1 HI.out.2.2.2 rfl _ j _ rfl ux.out _ 1 _ rfl xl.out (by intro u hu;simp at hu;subst hu;rfl) (by unfold maxLen;omega) (by omega) ?_;intro ra rc w7 htx7;have xI:=B5 (htx7.perm (List.Perm.swap _ _ _)).drop;clear htx7 ux xl)
    go_roundw
    case rel=>exact⟨j+1,ra,rc,hs ++ [.slice a2 n2 c2],fr ++ [(cG c r sets).1],D3,by go_num,by omega,rfl,AE.out,AD.out,(fun u hu=>by rcases List.mem_append.1 hu with h|h;exact BJ.out u h;simp at h;subst h;rfl),(Ac.out.mono xi.out).snoc xj.out,ur.out,xI.out⟩
    case measure=>simp [intOf];omega
   ·have he2:((cG c r sets).2 == 0)=false:=by simpa using he
    have HE:=B5 he
    generalize hev:(cG c r sets).2=ev at *
    have AF:=B5 hev
    clear hev
    go_wp2_with (first|(go_at_call 113;refine xh.out.mono ?_;rintro e2 w2 ⟨a2,n2,c2,D3,rfl,hle3,-,htx3⟩;have ur:=B5 (ub.out.trans hle3);have um:=B5 htx3.drop;clear hle3 htx3 xh uu c0 d0 dc hcu)|(refine ay rfl _ _ _ rfl bq ba rfl [.int .i64 ev,.slice none 0 0,.int .i64 0] rfl aZ um.out (by kernel_rfl) rfl (by intro u hu;simp at hu;rcases hu with rfl|rfl|rfl<;>rfl) ?_;intro w6 hs6;have tJ:=B5 hs6;clear hs6 um))
    refine bodyPost_ret (aR rfl _ _ rfl (bE rfl (aA (tJ.out.sat.blk 0 rfl)))) rfl ?_
    have hua:cz c sets rs []=([],ev):=jz (j+1) HE.out (by rw [uB.out,gv r Ab.out,AF.out,if_neg HE.out])
    have hall:X.all (i:Int) rs sets=(X,cd ev):=by
     unfold TxM.all
     rw [lk HC.out,hua]
     exact if_neg HE.out
    rw [hall]
    exact⟨none,0,0,D3,rfl,ur.out,RowsF.nil _,tJ.out.drop⟩
  ·obtain rfl:j=N:=by omega
   have hji:¬((j:Int)<(j:Int)):=by omega
   have hall0:cz c sets rs []=(fr,0):=by have:=Ab.out;rwa [List.take_of_length_le (Nat.le_of_eq HN.out)]at this
   obtain⟨D3,hle3,hfr,htx3⟩:=kO uu.out
   have hlh:hs.length=j:=by have:=hfr.1;omega
   have hlf:fr.length=j:=Ac.out.len.symm.trans hlh
   have uV:=B5 (show X.all (i:Int) rs sets=(fr.foldl (fun y r=>y.put (i:Int) r) X,i8 (j:Int)) by
    unfold TxM.all
    rw [lk HC.out,hall0]
    rw [HN.out]
    rfl)
   have uj:=B5 hlf
   have Av:=B5 hlh
   have ur:=B5 (ub.out.trans hle3)
   have ww:=B5 hfr
   have zD:=B5 (Ac.out.mono hle3)
   have um:=B5 htx3
   clear hall0 hle3 hfr htx3 hlh hlf uu Ac Ab
   go_wp2_with fail
   go_loopw [52] (fun idx wr=>∃(k:Nat) (D':PH),idx = .int .i64 k∧k≤j∧PH.le D3 D'∧TxIn B wr D' x o ((fr.take k).foldl (fun y r=>y.put (i:Int) r) X) (blk ba aZ bq::l)) (fun idx _=>j-(intOf idx).toNat)
   case atStart=>exact⟨0,D3,rfl,Nat.zero_le _,PH.le.refl _,um.out⟩
   case round =>
    obtain⟨k,D4,rfl,hk,hle4,htx⟩:=hrel
    have wJ:=B5 hle4
    have uu:=B5 htx
    clear hle4 htx um
    by_cases hlt2:k<j
    ·obtain⟨u,hu⟩:∃u,hs[k]?=some u:=⟨hs[k]'(by rw [Av.out];exact hlt2),List.getElem?_eq_getElem _⟩
     obtain⟨r,hr,hur⟩:=zD.out.get hu
     obtain⟨m',hp⟩:=nV HM.out vB.out k fr yP.out zD.out.fit (by rw [uj.out];exact hk)
     have hmem:=List.mem_of_getElem? hr
     have hfits:=(yP.out r hmem).1
     obtain⟨k0,h0,hk0,hk1,_⟩:=dU hfits
     have hl4:r.length≤4:=by have h1:=cI hfits;have h2:=h1.2;unfold cO at h2;simp at h2;omega
     have wI:=B5 (nJ hp.tab (RowF.mono wJ.out hur) h0 hk1 (by rw [ji hp.well hfits (by rw [hp.keys];exact(yP.out r hmem).2),hp.len];exact xu.out) (by rw [hp.log];omega) (by omega) uu.out)
     have vb:=B5 (show(fr.take (k+1)).foldl (fun y r=>y.put (i:Int) r) X=((fr.take k).foldl (fun y r=>y.put (i:Int) r) X).put (i:Int) r by rw [List.take_add_one,hr];simp)
     obtain⟨fg,fo,rfl,hcu⟩:∃fg fo,fa=some ⟨fg,fo,none⟩∧wr.cell? ⟨fg,fo+k,none⟩=some u:=by
      obtain⟨_,_,ao,cap,hv,_,_,_,hcell⟩:=(ww.out.mono wJ.out).rd uu.out.sat
      cases hv
      rcases hcell with h0|⟨g,og,hg,hcc⟩
      ·omega
      ·exact⟨g,og,hg,hcc k u hu⟩
     have hki:(k:Int)<(j:Int):=by omega
     clear hu hr hur hp hmem hfits h0 hk0 hk1 hl4
     go_wp2_with (go_at_call 94;refine wI.out.mono ?_;rintro e2 w2 ⟨rfl,D5,hle5,htx5⟩;have wK:=B5 (wJ.out.trans hle5);have ut:=B5 htx5;clear hle5 htx5 wI uu hcu)
     go_roundw
     case rel=>exact⟨k+1,D5,by go_num,by omega,wK.out,by rw [vb.out];exact ut.out⟩
     case measure=>simp [intOf];omega
    ·obtain rfl:k=j:=by omega
     have hki:¬((k:Int)<(k:Int)):=by omega
     have vb:=B5 (show TxIn B _ D4 x o (fr.foldl (fun y r=>y.put (i:Int) r) X) (blk ba aZ bq::l)from List.take_of_length_le (Nat.le_of_eq uj.out)▸uu.out)
     clear uu
     go_wp2_with (refine ay rfl _ _ _ rfl bq ba rfl [.int .i64 0,.slice none 0 0,.int .i64 (k:Int)] rfl aZ vb.out (by kernel_rfl) rfl (by intro u hu;simp at hu;rcases hu with rfl|rfl|rfl<;>rfl) ?_;intro w6 hs6;have tJ:=B5 hs6;clear hs6 vb)
     refine bodyPost_ret (aR rfl _ _ rfl (bE rfl (aA (tJ.out.sat.blk 0 rfl)))) rfl ?_
     rw [uV.out]
     exact⟨none,0,0,D4,rfl,ur.out.trans wJ.out,RowsF.nil _,tJ.out.drop⟩
theorem nT {B w:World}{D:PH}{x o i:Nat}{X:TxM}{l:List HP}{m:ar}{c:List Bool}{k:Val}{sets:List SetM}{sv:Value}(hm:X.tabs[i]?=some m)(hc:X.cols[i]?=some c)(hI:TabI c m)(hml:m.length≤200)(hset:SetsF D sv sets)(hb:X.log.length+1≤10000)(h:TxIn B w D x o X l) :
  Calls Tryz.prog 95 #[.pointer (some ⟨x,0,none⟩),.int .i64 i,k.v,sv] w (dV B D x o l (X.one i k sets)):=by
 obtain⟨W0,hW0,h0⟩:=dL h k.cells.toArray aZ tV bq
 have ul:=B5 (show W0=(w.alloc (.cells #[.bool k.t,.int .i64 k.n,.string k.s] tV)).alloc (.cells aZ bq)from hW0)
 obtain⟨t,g,og,pc,c0,d1,hpc,hget⟩:=ed h0 hm
 have HG:=B5 (hget k)
 have hlt:(i:Int)<(X.tabs.length:Int):=by have:=(List.getElem?_eq_some_iff.1 hm).1;omega
 have tO:=B5 h0
 have HM:=B5 hm
 have HC:=B5 hc
 have vB:=B5 hI
 have xu:=B5 hml
 have vC:=B5 hset
 have HB:=B5 hb
 have C0:=B5 c0
 have D1:=B5 d1
 have PC:=B5 hpc
 obtain⟨sa,sn,sc,rfl⟩:∃a n c,sv = .slice a n c:=by obtain⟨_,_,ao,rc,h,_⟩:=hset.1;exact⟨ao,_,rc,h⟩
 generalize hTN:X.tabs.length=TN at *
 clear h hm hc hI hml hset hb hW0 h0 c0 d1 hpc hget hTN
 go_enter Tryz.func95,Tryz.ntmps95
 go_upto_region 1 with fail
 rw [←ul.out]
 clear ul
 generalize w.heap.size+1=ba at tO ⊢
 generalize w.heap.size=bk at tO ⊢
 obtain⟨x0,x1,x2,xf⟩:=aT (show W0.heap[bk]?=some (.cells #[.bool k.t,.int .i64 k.n,.string k.s] tV (0,0))from tO.out.sat.blk 1 rfl)
 have c0:=C0.out
 have d1:=D1.out
 have hpc:=PC.out
 refine af [(0,false,11),(1,false,11),(2,false,11),(3,false,11),(4,false,11),(5,false,11),(6,false,11),(7,false,11),(8,false,11),(9,false,11),(10,false,11),(11,true,0),(12,false,999),(13,false,999),(14,false,999),(15,false,999),(16,false,999)] (by kernel_rfl) (by kernel_rfl) ?_
 iterate 11 (refine ae rfl rfl (fun K hK=>?_);go_simp;refine hK _ ?_;clear hK K)
 refine ah rfl ?_
 refine aq rfl (fun K hK=>?_)
 go_simp
 refine HG.out.mono ?_
 rintro e1 w1 ⟨ra,rn,rc,rfl,hrow,hk1⟩
 have wP:=B5 hrow
 have tD:=B5 (tO.out.kept hk1)
 clear hk1 hrow tO HG c0 d1 hpc x0 x1 x2 xf C0 D1 PC
 refine hK _ _ ?_
 clear hK K
 refine wpList_nil ?_
 refine And.intro ?_ ?_
 ·go_simp
 iterate 5 (refine ae rfl rfl (fun K hK=>?_);go_simp;refine hK _ ?_;clear hK K)
 refine ai ?_
 cases hf:aU m k with
 | none =>
  have HE:=B5 (show X.one (i:Int) k sets=(X,cd 61) by unfold TxM.one;rw [gb HM.out,hf])
  clear hf
  go_wp2_with (refine ay rfl _ _ _ rfl bq ba rfl [.int .i64 61,.slice none 0 0,.int .i64 0] rfl aZ tD.out (by kernel_rfl) rfl (by intro u hu;simp at hu;rcases hu with rfl|rfl|rfl<;>rfl) ?_;intro w6 hs6;have tJ:=B5 hs6;clear hs6 tD)
  refine bodyPost_ret (aR rfl _ _ rfl (bE rfl (aA (tJ.out.sat.blk 0 rfl)))) rfl ?_
  rw [HE.out]
  exact⟨none,0,0,D,rfl,PH.le.refl _,RowsF.nil _,tJ.out.drop.drop⟩
 | some r =>
  have HE:=B5 (show X.one (i:Int) k sets=X.all (i:Int) [r] sets by unfold TxM.one;rw [gb HM.out,hf])
  obtain⟨hmem,hkey⟩:=dA hf
  have hro:RowF D (.slice ra rn rc) r:=by have:=wP.out;rw [hf]at this;exact this
  obtain⟨D2,hle2,hrw2,htx2⟩:=oK tD.out hro
  have ue:=B5 hle2
  have uV:=B5 (nR HM.out HC.out vB.out xu.out (rs:=[r]) (fun q hq=>by
   obtain rfl:=List.mem_singleton.1 hq
   exact⟨vB.out.fits _ hmem,by rw [hkey,hf];rfl⟩) hrw2 (vC.out.mono hle2) (by simp) (by simpa using HB.out) htx2)
  clear hf hmem hkey hro hle2 hrw2 htx2 wP tD
  go_wp2_with (first|(go_at_call 97;refine uV.out.mono ?_;rintro e2 w2 ⟨a2,n2,c2,D3,rfl,hle3,hrw3,htx3⟩;have ur:=B5 (ue.out.trans hle3);have xj:=B5 hrw3;have um:=B5 htx3;clear hle3 hrw3 htx3 uV)|(refine ay rfl _ _ _ rfl bq ba rfl [_,.slice a2 n2 c2,_] rfl aZ um.out (by kernel_rfl) rfl (by intro u hu;simp at hu;rcases hu with rfl|rfl|rfl<;>rfl) ?_;intro w6 hs6;have tJ:=B5 hs6;clear hs6 um))
  refine bodyPost_ret (aR rfl _ _ rfl (bE rfl (aA (tJ.out.sat.blk 0 rfl)))) rfl ?_
  rw [HE.out]
  exact⟨a2,n2,c2,D3,rfl,ur.out,xj.out,tJ.out.drop.drop⟩
theorem oJ {B w:World}{D:PH}{x o i:Nat}{X:TxM}{l:List HP}{m:ar}{c:List Bool}{e:StmE}{s:StmM}(hs:StmOk D e s)(hi:s.table=(i:Int))(hm:X.tabs[i]?=some m)(hc:X.cols[i]?=some c)(hI:TabI c m)(hml:m.length≤200)(hb:X.log.length+1≤10000)(h:TxIn B w D x o X l) :
  Calls Tryz.prog 72 #[.pointer (some ⟨x,0,none⟩),.agg e.cells.toArray] w (dV B D x o l (X.one s.table s.key s.sets)):=by
 obtain⟨W0,hW0,h2⟩:=dL h e.cells.toArray aZ tSt bq
 have ul:=B5 hW0
 have HP:=B5 (nT (k:=s.key) hm hc hI hml hs.sets hb h2)
 rw [←hi]at HP
 have tO:=B5 h2
 have u9:=B5 hs.table
 have zC:=B5 hs.key
 clear h hs hi hm hc hI hml hb hW0 h2
 go_enter Tryz.func72,Tryz.ntmps72
 go_upto_region 1 with fail
 rw [←ul.out]
 clear ul
 generalize w.heap.size+1=ba at tO HP ⊢
 generalize w.heap.size=bs at tO HP ⊢
 obtain⟨x0,x2,x3,x4,x5,x6,x7,x17,x18,x19⟩:=bQ (tO.out.sat.blk 1 rfl)
 rw [u9.out]at x2
 rw [zC.out]at x3 x4 x5
 go_wp2_with (first|(go_at_call 95;refine HP.out.mono ?_;rintro e2 w2 ⟨ra,rn,rc,D2,rfl,hle,hrw,hs2⟩;have ub:=B5 hle;have uH:=B5 hrw;have tL:=B5 hs2;clear hle hrw hs2 HP tO x0 x2 x3 x4 x5 x6 x7 x17 x18 x19)|(refine ay rfl _ _ _ rfl bq ba rfl [_,.slice ra rn rc,_] rfl aZ tL.out (by kernel_rfl) rfl (by intro u hu;simp at hu;rcases hu with rfl|rfl|rfl<;>rfl) ?_;intro w6 hs6;have tJ:=B5 hs6;clear hs6 tL))
 refine bodyPost_ret (aR rfl _ _ rfl (bE rfl (aA (tJ.out.sat.blk 0 rfl)))) rfl ?_
 exact⟨ra,rn,rc,D2,rfl,ub.out,uH.out,tJ.out.drop.drop⟩
abbrev tz : TypeId:=94
theorem CurE.one (c:CurE):∀u∈c.cells,u.oneCell'=true:=by
 intro u hu
 simp [CurE.cells,PredE.cells,Spn.cells,Val.cells]at hu
 rcases hu with rfl|rfl|rfl|rfl|rfl|rfl|rfl|rfl|rfl|rfl|rfl|rfl|rfl|rfl|rfl|rfl|rfl|rfl|rfl|rfl|rfl|rfl|rfl|rfl|rfl|rfl|rfl<;>rfl
theorem ms (A L cs:List Value)(off:Nat):lay (A++L) (A.length+off) cs=A++lay L off cs:=by
 unfold lay
 rw [List.take_append,List.take_of_length_le (by omega),show A.length+off-A.length=off by omega,List.drop_append,List.drop_of_length_le (l:=A) (by omega),show A.length+off+cs.length-A.length=off+cs.length by omega]
 simp
theorem nB (o:Nat)(lv:Value){sv:List Int}(cs:List CurE)(hs:sv.length=4){n:Nat}(hn:n<cs.length)(c:CurE):lay (aO o lv sv cs).toList (6+n*27) c.cells=(aO o lv sv (cs.set n c)).toList:=by
 have e:∀cs:List CurE,(aO o lv sv cs).toList=((.pointer (some ⟨o,0,none⟩)::lv::sv.map (Value.int .i64))++cs.flatMap CurE.cells):=fun cs=>rfl
 rw [e,e,show 6+n*27=(Value.pointer (some ⟨o,0,none⟩)::lv::sv.map (Value.int .i64)).length+n*27 by simp [hs],ms,nF CurE.len hn]
theorem gG (o:Nat)(lv:Value){sv:List Int}{cs:List CurE}(hs:sv.length=4){n j:Nat}{c:CurE}{v:Value}(hn:cs[n]?=some c)(hj:c.cells[j]?=some v):(aO o lv sv cs)[6+(n*27+j)]?=some v:=by
 have e:(aO o lv sv cs)=((.pointer (some ⟨o,0,none⟩)::lv::sv.map (Value.int .i64))++cs.flatMap CurE.cells).toArray:=rfl
 rw [e,List.getElem?_toArray,List.getElem?_append_right (by simp [hs])]
 simp only [List.length_cons,List.length_map,hs]
 rw [show 6+(n*27+j)-(4+1+1)=n*27+j by omega]
 exact br CurE.len cs n c hn j v hj
section
variable {B w : World} {D : PH} {x o n : Nat} {X : TxM} {l : List HP} {m : CurM}
theorem rI (h:TxIn B w D x o X l)(hm:X.curs[n]?=some m):∃c:CurE,nS D c m∧(∀j v,c.cells[j]?=some v→w.cell? ⟨x,6+(n*27+j),none⟩=some v)∧∀j,w.frozen? ⟨x,j,none⟩=false:=by
 obtain⟨H,hH,hs⟩:=h
 have hl:n<H.cs.length:=by rw [hH.curs.len];exact(List.getElem?_eq_some_iff.1 hm).1
 have hc:H.cs[n]?=some H.cs[n]:=List.getElem?_eq_getElem hl
 obtain⟨m',hm',hok⟩:=hH.curs.get hc
 rw [hm]at hm'
 cases hm'
 have hb:=hs.blk 0 rfl
 refine⟨H.cs[n],hok,fun j v hj=>?_,fun j=>by simp [World.frozen?,hb]⟩
 simp only [World.cell?,hb]
 exact gG o H.lv hH.saves hc hj
theorem fp {P:Program}{ops:Array Oper}{rest:List Oper}{oo:Oper}{a:Act}{Q:Exit→Act→World→Prop}(hgd:oo.guard=none)(ty:TypeId)(xo yo:Operand)(ho:oo.op = .store ty xo yo)(off:Nat)(hx:a.eval xo = .pointer (some ⟨x,off,none⟩))(hoff:off=6+n*27)(c:CurE)(hy:a.eval yo = .agg c.cells.toArray)
  (hs:TxIn B w D x o X l) (hn:n<3) (hok:nS D c m) (hi:(P.info? ty).map (·.size)=some 27)
  (h:∀w',TxIn B w' D x o { X with curs:=X.curs.set n m } l→wpList P ops Q rest (a.put oo.dst undef) w'):wpList P ops Q (oo::rest) a w:=by
 subst hoff
 obtain⟨H,hH,hs⟩:=hs
 have hl:n<H.cs.length:=by rw [hH.curs.len,hH.three];exact hn
 refine dJ hgd ty xo yo ho tTx x (6+n*27) hx c.cells hy (aO o H.lv X.saves H.cs).toList (by rw [Array.toArray_toList];exact hs) (by rw [CurE.len];exact hi) ?_ (CurE.one c) (fun w' hs'=>h w' ?_)
 ·rw [CurE.len]
  have e:(aO o H.lv X.saves H.cs).toList.length=6+H.cs.length*27:=by
   show((.pointer (some ⟨o,0,none⟩)::H.lv::(X.saves.map (Value.int .i64)++H.cs.flatMap CurE.cells)):List Value).length=_
   rw [List.length_cons,List.length_cons,List.length_append,List.length_map,hH.saves,cj CurE.len]
   omega
  rw [e]
  omega
 ·rw [nB o H.lv H.cs hH.saves hl c]at hs'
  exact⟨⟨H.lv,H.es,H.cs.set n c⟩,⟨hH.log,hH.curs.set hok n,hH.saves,by rw [List.length_set];exact hH.three,hH.small⟩,by rw [Array.toArray_toList]at hs';exact hs'⟩
end
def TxM.close (X:TxM)(s:StmM):TxM×AnsM:=if (X.cur s.cursor).opn then (X.setCur s.cursor lD,cd 0)else (X,cd 161)
def eT : CurE:=⟨false,false,false,0,⟨0,0,⟨false,0,⟨#[]⟩⟩,⟨false,0,⟨#[]⟩⟩,none,0,0,[]⟩,bZ,⟨false,0,⟨#[]⟩⟩⟩
theorem iO (D:PH):nS D eT lD:=⟨rfl,rfl,rfl,rfl,rfl,rfl,rfl,.mk _ [] (RdP.nil _ _) (by simp)⟩
theorem mv {X:TxM}{n:Nat}{m:CurM}(h:X.curs[n]?=some m):X.cur (n:Int)=m:=by
 unfold TxM.cur
 rw [Int.toNat_natCast,List.getD_eq_getElem?_getD,h];rfl
theorem pr {B w:World}{D:PH}{x o n:Nat}{X:TxM}{l:List HP}{e:StmE}{s:StmM}{m:CurM}(hs:StmOk D e s)(hi:s.cursor=(n:Int))(hn:n<3)(hm:X.curs[n]?=some m)(h:TxIn B w D x o X l) :
  Calls Tryz.prog 79 #[.pointer (some ⟨x,0,none⟩),.agg e.cells.toArray] w (dV B D x o l (X.close s)):=by
 obtain⟨W0,hW0,h2⟩:=dL h e.cells.toArray aZ tSt bq
 have ul:=B5 hW0
 obtain⟨c,hc,hcell,cf⟩:=rI h2 hm
 have d0:=hcell 0 _ rfl
 rw [Nat.add_zero]at d0
 have tO:=B5 h2
 have xL:=B5 (show e.cursor=(n:Int)from hs.cursor.trans hi)
 have wN:=B5 (show X.close s=if m.opn then ({ X with curs:=X.curs.set n lD },cd 0)else (X,cd 161) by unfold TxM.close;rw [hi,mv hm];rfl)
 have vA:=B5 hc.1
 have D0:=B5 d0
 have CF:=B5 cf
 have hn3:(n:Int)<3:=by omega
 have HN:=B5 hn
 clear h hs hi hW0 h2 hcell hc hm d0 cf
 go_enter Tryz.func79,Tryz.ntmps79
 go_upto_region 1 with fail
 rw [←ul.out]
 clear ul
 generalize w.heap.size+1=ba at tO ⊢
 generalize w.heap.size=bs at tO ⊢
 obtain⟨x0,x2,x3,x4,x5,x6,x7,x17,x18,x19⟩:=bQ (tO.out.sat.blk 1 rfl)
 rw [xL.out]at x18
 have d0:=D0.out
 refine af [(0,false,999),(1,false,999),(2,false,999),(3,false,999),(4,false,999),(5,false,999),(6,false,999),(7,false,999),(8,false,999)] (by kernel_rfl) (by kernel_rfl) ?_
 iterate 9 (refine ae rfl rfl (fun K hK=>?_);go_simp;refine hK _ ?_;clear hK K)
 refine ai ?_
 have tD:=B5 (tO.out.kept (Kept.refl (fun _=>False) W0).drew)
 clear tO d0 D0 CF x0 x2 x3 x4 x5 x6 x7 x17 x18 x19
 generalize W0.drew=W1 at tD ⊢
 cases hop:m.opn with
 | false =>
  rw [vA.out,hop]
  have HE:=B5 (show X.close s=(X,cd 161) by rw [wN.out,hop];rfl)
  clear hop
  go_wp2_with (refine ay rfl _ _ _ rfl bq ba rfl [.int .i64 161,.slice none 0 0,.int .i64 0] rfl aZ tD.out (by kernel_rfl) rfl (by intro u hu;simp at hu;rcases hu with rfl|rfl|rfl<;>rfl) ?_;intro w6 hs6;have tJ:=B5 hs6;clear hs6 tD)
  refine bodyPost_ret (aR rfl _ _ rfl (bE rfl (aA (tJ.out.sat.blk 0 rfl)))) rfl ?_
  rw [HE.out]
  exact⟨none,0,0,D,rfl,PH.le.refl _,RowsF.nil _,tJ.out.drop.drop⟩
 | true =>
  rw [vA.out,hop]
  have HE:=B5 (show X.close s=({ X with curs:=X.curs.set n lD },cd 0) by rw [wN.out,hop];rfl)
  clear hop
  obtain⟨x0,x2,x3,x4,x5,x6,x7,x17,x18,x19⟩:=bQ (tD.out.sat.blk 1 rfl)
  rw [xL.out]at x18
  go_upto_region 3 with fail
  refine af [(0,false,7),(1,false,7),(2,false,7),(3,false,7),(4,false,7),(5,false,7),(6,false,7),(7,true,0)] (by kernel_rfl) (by kernel_rfl) ?_
  iterate 7 (refine ae rfl rfl (fun K hK=>?_);go_simp;refine hK _ ?_;clear hK K)
  refine ah rfl ?_
  refine fp (n:=n) rfl _ _ _ rfl _ rfl rfl eT rfl (tD.out.kept (Kept.refl (fun _=>False) W1).drew) HN.out (iO D) (by kernel_rfl) ?_
  intro w3 htx3
  refine wpList_nil ?_
  have tH:=B5 htx3
  clear htx3 tD x0 x2 x3 x4 x5 x6 x7 x17 x18 x19
  refine And.intro ?_ ?_
  ·go_simp
  refine ai ?_
  go_wp2_with (refine ay rfl _ _ _ rfl bq ba rfl [.int .i64 0,.slice none 0 0,.int .i64 0] rfl aZ tH.out (by kernel_rfl) rfl (by intro u hu;simp at hu;rcases hu with rfl|rfl|rfl<;>rfl) ?_;intro w6 hs6;have tJ:=B5 hs6;clear hs6 tH)
  refine bodyPost_ret (aR rfl _ _ rfl (bE rfl (aA (tJ.out.sat.blk 0 rfl)))) rfl ?_
  rw [HE.out]
  exact⟨none,0,0,D,rfl,PH.le.refl _,RowsF.nil _,tJ.out.drop.drop⟩
def TxM.opens (X:TxM)(s:StmM):TxM×AnsM:=(X.setCur s.cursor ⟨true,s.change,false,s.table,s.pred,bZ,default⟩,cd 0)
theorem dh {w:World}{b:Nat}{x:StmE}{t:TypeId}{fr:Nat×Nat}(h:w.heap[b]?=some (.cells x.cells.toArray t fr)) :
  w.cell? ⟨b,8,none⟩=some (.int .i64 x.pe.op)∧w.cell? ⟨b,9,none⟩=some (.int .i64 x.pe.col)∧w.cell? ⟨b,10,none⟩=some (.bool x.pe.v.t)∧w.cell? ⟨b,11,none⟩=some (.int .i64 x.pe.v.n)∧w.cell? ⟨b,12,none⟩=some (.string x.pe.v.s) ∧
   w.cell? ⟨b,13,none⟩=some (.bool x.pe.w.t)∧w.cell? ⟨b,14,none⟩=some (.int .i64 x.pe.w.n)∧w.cell? ⟨b,15,none⟩=some (.string x.pe.w.s)∧w.cell? ⟨b,16,none⟩=some (.slice x.pe.la x.pe.ln x.pe.lc):=by
 refine⟨?_,?_,?_,?_,?_,?_,?_,?_,?_⟩<;>simp [World.cell?,h,StmE.cells]
def curE1 (e:StmE):CurE:=⟨true,e.change,false,e.table,e.pe,bZ,⟨false,0,⟨#[]⟩⟩⟩
theorem qG {B w:World}{D:PH}{x o n:Nat}{X:TxM}{l:List HP}{e:StmE}{s:StmM}(hs:StmOk D e s)(hi:s.cursor=(n:Int))(hn:n<3)(h:TxIn B w D x o X l) :
  Calls Tryz.prog 77 #[.pointer (some ⟨x,0,none⟩),.agg e.cells.toArray] w (dV B D x o l (X.opens s)):=by
 obtain⟨W0,hW0,h2⟩:=dL h e.cells.toArray aZ tSt bq
 have ul:=B5 hW0
 have tO:=B5 h2
 have xL:=B5 (show e.cursor=(n:Int)from hs.cursor.trans hi)
 have wN:=B5 (show X.opens s=({ X with curs:=X.curs.set n ⟨true,s.change,false,s.table,s.pred,bZ,default⟩ },cd 0) by unfold TxM.opens;rw [hi];rfl)
 have uO:=B5 (show nS D (curE1 e) ⟨true,s.change,false,s.table,s.pred,bZ,default⟩from⟨rfl,hs.change,rfl,hs.table,hs.pred,rfl,rfl,hs.subs⟩)
 have hn3:(n:Int)<3:=by omega
 have HN:=B5 hn
 clear h hs hi hW0 h2
 go_enter Tryz.func77,Tryz.ntmps77
 go_upto_region 1 with fail
 rw [←ul.out]
 clear ul
 generalize w.heap.size+1=ba at tO ⊢
 generalize w.heap.size=bs at tO ⊢
 obtain⟨x0,x2,x3,x4,x5,x6,x7,x17,x18,x19⟩:=bQ (tO.out.sat.blk 1 rfl)
 rw [xL.out]at x18
 obtain⟨z0,z1,z2,z3,z4,z5,z6,z7,z8⟩:=dh (tO.out.sat.blk 1 rfl)
 refine af [(0,false,13),(1,false,13),(2,false,13),(3,false,13),(4,false,13),(5,false,13),(6,false,13),(7,false,13),(8,false,13),(9,false,13),(10,false,13),(11,false,13),(12,false,13),(13,true,0)] (by kernel_rfl) (by kernel_rfl) ?_
 iterate 13 (refine ae rfl rfl (fun K hK=>?_);go_simp;refine hK _ ?_;clear hK K)
 refine ah rfl ?_
 refine fp (n:=n) rfl _ _ _ rfl _ rfl rfl (curE1 e) rfl (tO.out.kept (Kept.refl (fun _=>False) W0).drew) HN.out uO.out (by kernel_rfl) ?_
 intro w3 htx3
 refine wpList_nil ?_
 have tH:=B5 htx3
 clear htx3 tO x0 x2 x3 x4 x5 x6 x7 x17 x18 x19 z0 z1 z2 z3 z4 z5 z6 z7 z8
 refine And.intro ?_ ?_
 ·go_simp
 refine ai ?_
 go_wp2_with (refine ay rfl _ _ _ rfl bq ba rfl [.int .i64 0,.slice none 0 0,.int .i64 0] rfl aZ tH.out (by kernel_rfl) rfl (by intro u hu;simp at hu;rcases hu with rfl|rfl|rfl<;>rfl) ?_;intro w6 hs6;have tJ:=B5 hs6;clear hs6 tH)
 refine bodyPost_ret (aR rfl _ _ rfl (bE rfl (aA (tJ.out.sat.blk 0 rfl)))) rfl ?_
 rw [wN.out]
 exact⟨none,0,0,D,rfl,PH.le.refl _,RowsF.nil _,tJ.out.drop.drop⟩
end Go.Proofs.YtdobimafhbfkhaaGreat
