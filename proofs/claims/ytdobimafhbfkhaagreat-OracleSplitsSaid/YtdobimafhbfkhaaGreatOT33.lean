/- Joined texts: Rows are changed, all or none (txn.all). A row is changed by its key (txn.one, txn.update). A row is changed by a statement's key (txn.update). Cursors of a transaction. A cursor is closed (txn.close). A cursor is opened (txn.open). -/
import Derived.Test.YtdobimafhbfkhaaGreatOT32
import Derived.Laws.MakeOwn
set_option maxHeartbeats 64000000
namespace Go.Proofs.YtdobimafhbfkhaaGreat
open Go.ChangeShapes Go.WideShapes Go.ChangeAt Go.RowKit
set_option maxRecDepth 100000
set_option linter.unusedSimpArgs false
theorem nG : (Tryz.prog.info? tW).map (fun i=>(i.zero,i.size,i.bytes))=some (some (.slice none 0 0),1,24):=by kernel_rfl
theorem sX {B w:World}{D:PH}{x o:Nat}{X:TxM}{l:List HP}(h:TxIn B w D x o X l){e:TypeId}{cap:Nat}{cs:Array Value}(hc:cap≤maxLen)(hz:cap*1≤cs.size):TxIn B (w.alloc (.cells cs e)) D x o X (aF e 1 (.slice (some ⟨w.heap.size,0,none⟩) 0 cap) 0 []::l):=by
 obtain⟨H,h1,hs⟩:=h
 have h2:=hs.own_fresh (e:=e) (size:=1) (n:=0) (cap:=cap) (cs:=cs) (xs:=[]) (Nat.zero_le _) hc hz (by simp) (by simp)
 exact⟨H,h1,(h2.perm (List.perm_middle (l₁:=txL D x o X H) (l₂:=l)).symm)⟩
theorem ff {P:Program}{B:World}{D:PH}{xb ob:Nat}{X:TxM}{l:List HP}(w:World){ops:Array Oper}{rest:List Oper}{o:Oper}{a:Act}{Q:Exit→Act→World→Prop}(hgd:o.guard=none)(s x:Operand)(t:TypeId)
  (ho:o.op = .call { callee:=.builtin .append,args:=#[s,x],argTypes:=#[t,t] })
  (e:TypeId) (i:TypeInfo) (z:Value) (size bytes:Nat) (ht:P.underlying t=some (.slice e)) (hi:P.info? e=some i) (hz:i.zero=some z)
  (hsize:i.size=size) (hby:i.bytes=bytes) (hzs:z.cells.size=size)
  (v:Value) (n:Nat) (xs:List Value) (hv:a.eval s=v) (hs:TxIn B w D xb ob X (aF e size v n xs::l)) (xv:Value) (m:Nat) (news:List Value) (hx:a.eval x=xv) (hrd:Rd w size xv m news) (h1:∀u∈news,u.oneCell'=true)
  (h63:n+m≤maxLen) (hbytes:(n+m)*bytes≤140737488355328)
  (h:∀ra rc w',TxIn B w' D xb ob X (aF e size (.slice ra (n+m) rc) (n+m) (xs++news)::l)→wpList P ops Q rest (a.put o.dst (.slice ra (n+m) rc)) w'):wpList P ops Q (o::rest) a w:=by
 obtain⟨H,hH,hs⟩:=hs
 refine aI w hgd s x t ho e i z size bytes ht hi hz hsize hby hzs v n xs hv (hs.perm (List.perm_middle (l₁:=txL D xb ob X H) (a:=aF e size v n xs) (l₂:=l))) xv m news hx hrd h1 h63 hbytes (fun v' w' hs' _=>?_)
 obtain⟨ra,rc,rfl⟩:=hs'.own_shape
 exact h ra rc w' ⟨H,hH,hs'.perm (List.perm_middle (l₁:=txL D xb ob X H) (a:=aF e size (.slice ra (n+m) rc) (n+m) (xs++news)) (l₂:=l)).symm⟩
theorem mQ {X:TxM}{i:Nat}{c:List Bool}(h:X.cols[i]?=some c):X.col (i:Int)=c:=by
 unfold TxM.col
 rw [Int.toNat_natCast,List.getD_eq_getElem?_getD,h];rfl
theorem km {B w:World}{D:PH}{x o:Nat}{X:TxM}{l:List HP}{e:TypeId}{size n:Nat}{v:Value}{xs:List Value}(h:TxIn B w D x o X (aF e size v n xs::l)):∃D',PH.le D D'∧RdP D' size v n xs∧TxIn B w D' x o X l:=by
 obtain⟨H,hH,hs⟩:=h
 obtain⟨D',hle,hrd,hs2⟩:=(hs.perm (List.perm_middle (l₁:=txL D x o X H) (l₂:=l))).own_give
 exact⟨D',hle,hrd,jU hH hle hs2⟩
theorem FreshD.fit {D:PH}{hs:List Value}{fr:ay}(h:FreshD D hs fr):∀q∈fr,bR q:=by
 induction h with
 | nil=>intro q hq;cases hq
 | cons hab _ ih =>
  intro q hq
  rcases List.mem_cons.1 hq with rfl|hq
  ·exact hab.2
  ·exact ih q hq
def sz (c:List Bool)(m:ay)(fr:ay):Prop:=∀q∈fr,bw c q=true∧(aY m (aJ q)).isSome=true
theorem pg {B w:World}{D:PH}{x o i:Nat}{X:TxM}{l:List HP}{m:ay}{c:List Bool}{rs:ay}{sets:List SetM}{lv sv:Value}(hm:X.tabs[i]?=some m)(hc:X.cols[i]?=some c)(hI:TabI c m)(hml:m.length≤200)
  (hrs:∀r∈rs,bw c r=true∧(aY m (aJ r)).isSome=true) (hrd:RowsF D lv rs) (hset:SetsF D sv sets) (hn:rs.length≤200) (hb:X.log.length+rs.length≤10000) (h:TxIn B w D x o X l) :
  Calls Tryz.prog 97 #[.pointer (some ⟨x,0,none⟩),.int .i64 i,lv,sv] w (d4 B D x o l (X.all i rs sets)):=by
 obtain⟨i0,hi,hz0,hz1,hz2⟩:=info_parts nG
 obtain⟨N,hN⟩:∃N,rs.length=N:=⟨_,rfl⟩
 obtain⟨W0,hW0,h0⟩:∃W,W=w.alloc (.cells aZ bl)∧TxIn B W D x o X (blk w.heap.size aZ bl::l):=⟨_,rfl,h.alloc aZ bl⟩
 have uI:=CM hW0
 obtain⟨us,hu1,hu2,hu3,hu4⟩:=hrd.1
 obtain⟨la,lc,rfl⟩:=hu3.shape
 have xj:=CM (show RdP D 1 (.slice la N lc) N us from hN▸hu3)
 rw [hN]at hn hb ⊢
 have uv:=CM h0
 clear hW0 h h0 hu3
 go_enter Tryz.func97,Tryz.ntmps97
 go_upto_region 1 with fail
 rw [←uI.out]
 clear uI
 generalize w.heap.size=ba at uv ⊢
 have hmk:(Instr.makeSlice 55 (.int .i64 0) (.int .i64 (N:Int))).run Tryz.prog W0 = .ok (.slice (some ⟨W0.heap.size,0,none⟩) 0 N) (W0.alloc (.cells (Go.madeCells #[.slice none 0 0] (N*i0.size)) tW)) :=
  Go.run_make (P:=Tryz.prog) W0 55 tW i0 (.slice none 0 0) Tryz.underlying55 hi hz0 .i64 .i64 0 (N:Int) (by omega) (by omega) (by rw [hz2];omega) (by omega)
 have hs1:=sX uv.out (e:=tW) (cap:=N) (cs:=Go.madeCells #[.slice none 0 0] (N*i0.size)) (by unfold maxLen;omega) (by rw [Go.size_madeCells,hz1];omega)
 obtain⟨W1,hW1⟩:∃W,W=W0.alloc (.cells (Go.madeCells #[.slice none 0 0] (N*i0.size)) tW):=⟨_,rfl⟩
 rw [←hW1]at hmk hs1
 generalize W0.heap.size=bf at hmk hs1
 have uk:=CM hs1
 have HI:=CM (And.intro hi (And.intro hz0 (And.intro hz1 hz2)))
 have HN:=CM hN
 have AK:=CM hrs
 have HM:=CM hm
 have HC:=CM hc
 have wy:=CM hI
 have Aq:=CM hml
 have vT:=CM hset
 have uw:=CM hrd
 have HU:=CM (And.intro hu1 (And.intro hu2 hu4))
 clear hi hz0 hz1 hz2 hW1 hs1 uv hN hrs hm hc hI hml hset hrd hu1 hu2 hu4
 go_upto_region 2 with fail
 clear hmk
 go_wp2_with fail
 go_loopw [9,21] (fun fv idx wr=>∃(j:Nat) (fa:Option Addr) (fc:Nat) (hs:List Value) (fr:ay) (D':PH),idx = .int .i64 j∧j≤N∧fv = .slice fa j fc∧cH c sets (rs.take j) []=(fr,0)∧sz c m fr∧(∀u∈hs,u.oneCell'=true)∧FreshD D' hs fr∧PH.le D D'∧TxIn B wr D' x o X (aF tW 1 (.slice fa j fc) j hs::blk ba aZ bl::l)) (fun _ idx _=>N-(intOf idx).toNat)
 case atStart=>exact⟨0,some ⟨bf,0,none⟩,N,[],[],D,rfl,Nat.zero_le _,rfl,rfl,(fun q hq=>by cases hq),(fun u hu=>by cases hu),.nil,PH.le.refl _,uk.out⟩
 case round =>
  obtain⟨j,fa,fc,hs,fr,D2,rfl,hj,rfl,hup,hfm,hone,hfd,hle,htx⟩:=hrel
  have AR:=CM hup
  have zI:=CM hfm
  have Cq:=CM hone
  have AT:=CM hfd
  have uF:=CM hle
  have uS:=CM htx
  clear hup hfm hone hfd hle htx uk
  by_cases hlt:j<N
  ·obtain⟨r,hr⟩:∃r,rs[j]?=some r:=⟨rs[j]'(by rw [HN.out];exact hlt),List.getElem?_eq_getElem _⟩
   obtain⟨u,hu⟩:∃u,us[j]?=some u:=⟨us[j]'(by rw [HU.out.1,HN.out];exact hlt),List.getElem?_eq_getElem _⟩
   have uY:=CM (show rs.take (j+1)=rs.take j ++ [r] by rw [List.take_add_one,hr];rfl)
   have HRR:=CM (AK.out r (List.mem_of_getElem? hr))
   have xG:=CM (show RowF D2 u r from⟨RdP.mono (HU.out.2.2 j u r hu hr) uF.out,uw.out.2 r (List.mem_of_getElem? hr)⟩)
   obtain⟨lg,lo,rfl,hcu⟩:∃lg lo,la=some ⟨lg,lo,none⟩∧wr.cell? ⟨lg,lo+j,none⟩=some u:=by
    obtain⟨_,_,ao,cap,hv,_,_,_,hcell⟩:=(xj.out.mono uF.out).rd uS.out.sat
    cases hv
    rcases hcell with h0|⟨g,og,hg,hcc⟩
    ·omega
    ·exact⟨g,og,hg,hcc j u hu⟩
   obtain⟨g,og,cap,cv,c0,d0,dc,hcol⟩:=l6 uS.out HC.out
   have hlc:(i:Int)<(X.cols.length:Int):=by have:=(List.getElem?_eq_some_iff.1 HC.out).1;omega
   have xV:=CM (qU uS.out hcol xG.out (vT.out.mono uF.out))
   have hji:(j:Int)<(N:Int):=by omega
   clear hr hu hcol
   generalize X.cols.length=CN at *
   by_cases he:(cJ c r sets).2=0
   ·rw [he]at xV
    have HE:=CM he
    clear he
    have Bm:=CM (show sz c m (fr ++ [(cJ c r sets).1])from fun q hq=>by
     rcases List.mem_append.1 hq with hq|hq
     ·exact zI.out q hq
     ·obtain rfl:=List.mem_singleton.1 hq
      obtain⟨f1,f2,f3⟩:=lS HRR.out.1 xG.out.2 vT.out.2 HE.out
      exact⟨f1,f3.symm▸HRR.out.2⟩)
    have Bn:=CM (show cH c sets (rs.take (j+1)) []=(fr ++ [(cJ c r sets).1],0) by rw [uY.out,gv r AR.out,if_pos HE.out])
    go_upto_region 8 with (go_at_call 113;refine xV.out.mono ?_;rintro e2 w2 ⟨a2,n2,c2,D3,rfl,hle3,hrw3,htx3⟩;have uX:=CM (uF.out.trans hle3);have xW:=CM hle3;have xX:=CM hrw3;have uM:=CM htx3;clear hle3 hrw3 htx3 xV uS c0 d0 dc hcu)
    have ht4:=(uM.out.alloc #[.slice a2 n2 c2] tW).perm (List.Perm.swap _ _ _)
    have xY:=CM (cd (size:=1) (n:=1) (aw w2 (.cells #[.slice a2 n2 c2] tW)) rfl (by unfold maxLen;omega))
    have uZ:=CM ht4
    clear ht4 uM
    go_wp2_with (at_builtin;refine ff _ rfl _ _ 55 rfl tW i0 _ 1 24 Tryz.underlying55 HI.out.1 HI.out.2.1 HI.out.2.2.1 HI.out.2.2.2 rfl _ j _ rfl uZ.out _ 1 _ rfl xY.out (by intro u hu;simp at hu;subst hu;rfl) (by unfold maxLen;omega) (by omega) ?_;intro ra rc w7 htx7;have yz:=CM (htx7.perm (List.Perm.swap _ _ _)).drop;clear htx7 uZ xY)
    go_roundw
    case rel=>exact⟨j+1,ra,rc,hs ++ [.slice a2 n2 c2],fr ++ [(cJ c r sets).1],D3,by go_num,by omega,rfl,Bn.out,Bm.out,(fun u hu=>by rcases List.mem_append.1 hu with h|h;exact Cq.out u h;simp at h;subst h;rfl),(AT.out.mono xW.out).snoc xX.out,uX.out,yz.out⟩
    case measure=>simp [intOf];omega
   ·have he2:((cJ c r sets).2 == 0)=false:=by simpa using he
    have HE:=CM he
    generalize hev:(cJ c r sets).2=ev at *
    have Bo:=CM hev
    clear hev
    go_wp2_with (first|(go_at_call 113;refine xV.out.mono ?_;rintro e2 w2 ⟨a2,n2,c2,D3,rfl,hle3,-,htx3⟩;have uX:=CM (uF.out.trans hle3);have uM:=CM htx3.drop;clear hle3 htx3 xV uS c0 d0 dc hcu)|(refine az rfl _ _ _ rfl bl ba rfl [.int .i64 ev,.slice none 0 0,.int .i64 0] rfl aZ uM.out (by kernel_rfl) rfl (by intro u hu;simp at hu;rcases hu with rfl|rfl|rfl<;>rfl) ?_;intro w6 hs6;have uu:=CM hs6;clear hs6 uM))
    refine bodyPost_ret (aR rfl _ _ rfl (bF rfl (aA (uu.out.sat.blk 0 rfl)))) rfl ?_
    have hua:cH c sets rs []=([],ev):=jA (j+1) HE.out (by rw [uY.out,gv r AR.out,Bo.out,if_neg HE.out])
    have hall:X.all (i:Int) rs sets=(X,cD ev):=by
     unfold TxM.all
     rw [mQ HC.out,hua]
     exact if_neg HE.out
    rw [hall]
    exact⟨none,0,0,D3,rfl,uX.out,RowsF.nil _,uu.out.drop⟩
  ·obtain rfl:j=N:=by omega
   have hji:¬((j:Int)<(j:Int)):=by omega
   have hall0:cH c sets rs []=(fr,0):=by have:=AR.out;rwa [List.take_of_length_le (Nat.le_of_eq HN.out)]at this
   obtain⟨D3,hle3,hfr,htx3⟩:=km uS.out
   have hlh:hs.length=j:=by have:=hfr.1;omega
   have hlf:fr.length=j:=AT.out.len.symm.trans hlh
   have uE:=CM (show X.all (i:Int) rs sets=(fr.foldl (fun y r=>y.put (i:Int) r) X,jt (j:Int)) by
    unfold TxM.all
    rw [mQ HC.out,hall0]
    rw [HN.out]
    rfl)
   have uK:=CM hlf
   have Bd:=CM hlh
   have uX:=CM (uF.out.trans hle3)
   have xn:=CM hfr
   have Ar:=CM (AT.out.mono hle3)
   have uM:=CM htx3
   clear hall0 hle3 hfr htx3 hlh hlf uS AT AR
   go_wp2_with fail
   go_loopw [52] (fun idx wr=>∃(k:Nat) (D':PH),idx = .int .i64 k∧k≤j∧PH.le D3 D'∧TxIn B wr D' x o ((fr.take k).foldl (fun y r=>y.put (i:Int) r) X) (blk ba aZ bl::l)) (fun idx _=>j-(intOf idx).toNat)
   case atStart=>exact⟨0,D3,rfl,Nat.zero_le _,PH.le.refl _,uM.out⟩
   case round =>
    obtain⟨k,D4,rfl,hk,hle4,htx⟩:=hrel
    have vH:=CM hle4
    have uS:=CM htx
    clear hle4 htx uM
    by_cases hlt2:k<j
    ·obtain⟨u,hu⟩:∃u,hs[k]?=some u:=⟨hs[k]'(by rw [Bd.out];exact hlt2),List.getElem?_eq_getElem _⟩
     obtain⟨r,hr,hur⟩:=Ar.out.get hu
     obtain⟨m',hp⟩:=oJ HM.out wy.out k fr zI.out Ar.out.fit (by rw [uK.out];exact hk)
     have hmem:=List.mem_of_getElem? hr
     have hfits:=(zI.out r hmem).1
     obtain⟨k0,h0,hk0,hk1,_⟩:=dU hfits
     have hl4:r.length≤4:=by have h1:=cM hfits;have h2:=h1.2;unfold cu at h2;simp at h2;omega
     have xw:=CM (oT hp.tab (RowF.mono vH.out hur) h0 hk1 (by rw [jz hp.well hfits (by rw [hp.keys];exact(zI.out r hmem).2),hp.len];exact Aq.out) (by rw [hp.log];omega) (by omega) uS.out)
     have wd:=CM (show(fr.take (k+1)).foldl (fun y r=>y.put (i:Int) r) X=((fr.take k).foldl (fun y r=>y.put (i:Int) r) X).put (i:Int) r by rw [List.take_add_one,hr];simp)
     obtain⟨fg,fo,rfl,hcu⟩:∃fg fo,fa=some ⟨fg,fo,none⟩∧wr.cell? ⟨fg,fo+k,none⟩=some u:=by
      obtain⟨_,_,ao,cap,hv,_,_,_,hcell⟩:=(xn.out.mono vH.out).rd uS.out.sat
      cases hv
      rcases hcell with h0|⟨g,og,hg,hcc⟩
      ·omega
      ·exact⟨g,og,hg,hcc k u hu⟩
     have hki:(k:Int)<(j:Int):=by omega
     clear hu hr hur hp hmem hfits h0 hk0 hk1 hl4
     go_wp2_with (go_at_call 94;refine xw.out.mono ?_;rintro e2 w2 ⟨rfl,D5,hle5,htx5⟩;have zn:=CM (vH.out.trans hle5);have uR:=CM htx5;clear hle5 htx5 xw uS hcu)
     go_roundw
     case rel=>exact⟨k+1,D5,by go_num,by omega,zn.out,by rw [wd.out];exact uR.out⟩
     case measure=>simp [intOf];omega
    ·obtain rfl:k=j:=by omega
     have hki:¬((k:Int)<(k:Int)):=by omega
     have wd:=CM (show TxIn B _ D4 x o (fr.foldl (fun y r=>y.put (i:Int) r) X) (blk ba aZ bl::l)from List.take_of_length_le (Nat.le_of_eq uK.out)▸uS.out)
     clear uS
     go_wp2_with (refine az rfl _ _ _ rfl bl ba rfl [.int .i64 0,.slice none 0 0,.int .i64 (k:Int)] rfl aZ wd.out (by kernel_rfl) rfl (by intro u hu;simp at hu;rcases hu with rfl|rfl|rfl<;>rfl) ?_;intro w6 hs6;have uu:=CM hs6;clear hs6 wd)
     refine bodyPost_ret (aR rfl _ _ rfl (bF rfl (aA (uu.out.sat.blk 0 rfl)))) rfl ?_
     rw [uE.out]
     exact⟨none,0,0,D4,rfl,uX.out.trans vH.out,RowsF.nil _,uu.out.drop⟩
theorem oL {B w:World}{D:PH}{x o i:Nat}{X:TxM}{l:List HP}{m:ay}{c:List Bool}{k:Val}{sets:List SetM}{sv:Value}(hm:X.tabs[i]?=some m)(hc:X.cols[i]?=some c)(hI:TabI c m)(hml:m.length≤200)(hset:SetsF D sv sets)(hb:X.log.length+1≤10000)(h:TxIn B w D x o X l) :
  Calls Tryz.prog 95 #[.pointer (some ⟨x,0,none⟩),.int .i64 i,k.v,sv] w (d4 B D x o l (X.one i k sets)):=by
 obtain⟨W0,hW0,h0⟩:=dN h k.cells.toArray aZ tV bl
 have uI:=CM (show W0=(w.alloc (.cells #[.bool k.t,.int .i64 k.n,.string k.s] tV)).alloc (.cells aZ bl)from hW0)
 obtain⟨t,g,og,pc,c0,d1,hpc,hget⟩:=ei h0 hm
 have HG:=CM (hget k)
 have hlt:(i:Int)<(X.tabs.length:Int):=by have:=(List.getElem?_eq_some_iff.1 hm).1;omega
 have uv:=CM h0
 have HM:=CM hm
 have HC:=CM hc
 have wy:=CM hI
 have Aq:=CM hml
 have vT:=CM hset
 have HB:=CM hb
 have C0:=CM c0
 have D1:=CM d1
 have PC:=CM hpc
 obtain⟨sa,sn,sc,rfl⟩:∃a n c,sv = .slice a n c:=by obtain⟨_,_,ao,rc,h,_⟩:=hset.1;exact⟨ao,_,rc,h⟩
 generalize hTN:X.tabs.length=TN at *
 clear h hm hc hI hml hset hb hW0 h0 c0 d1 hpc hget hTN
 go_enter Tryz.func95,Tryz.ntmps95
 go_upto_region 1 with fail
 rw [←uI.out]
 clear uI
 generalize w.heap.size+1=ba at uv ⊢
 generalize w.heap.size=bk at uv ⊢
 obtain⟨x0,x1,x2,xf⟩:=aT (show W0.heap[bk]?=some (.cells #[.bool k.t,.int .i64 k.n,.string k.s] tV (0,0))from uv.out.sat.blk 1 rfl)
 have c0:=C0.out
 have d1:=D1.out
 have hpc:=PC.out
 refine af [(0,false,11),(1,false,11),(2,false,11),(3,false,11),(4,false,11),(5,false,11),(6,false,11),(7,false,11),(8,false,11),(9,false,11),(10,false,11),(11,true,0),(12,false,999),(13,false,999),(14,false,999),(15,false,999),(16,false,999)] (by kernel_rfl) (by kernel_rfl) ?_
 iterate 11 (refine ae rfl rfl (fun K hK=>?_);go_simp;refine hK _ ?_;clear hK K)
 refine ag rfl ?_
 refine au rfl (fun K hK=>?_)
 go_simp
 refine HG.out.mono ?_
 rintro e1 w1 ⟨ra,rn,rc,rfl,hrow,hk1⟩
 have xG:=CM hrow
 have uk:=CM (uv.out.kept hk1)
 clear hk1 hrow uv HG c0 d1 hpc x0 x1 x2 xf C0 D1 PC
 refine hK _ _ ?_
 clear hK K
 refine wpList_nil ?_
 refine And.intro ?_ ?_
 ·go_simp
 iterate 5 (refine ae rfl rfl (fun K hK=>?_);go_simp;refine hK _ ?_;clear hK K)
 refine ah ?_
 cases hf:aY m k with
 | none =>
  have HE:=CM (show X.one (i:Int) k sets=(X,cD 61) by unfold TxM.one;rw [fQ HM.out,hf])
  clear hf
  go_wp2_with (refine az rfl _ _ _ rfl bl ba rfl [.int .i64 61,.slice none 0 0,.int .i64 0] rfl aZ uk.out (by kernel_rfl) rfl (by intro u hu;simp at hu;rcases hu with rfl|rfl|rfl<;>rfl) ?_;intro w6 hs6;have uu:=CM hs6;clear hs6 uk)
  refine bodyPost_ret (aR rfl _ _ rfl (bF rfl (aA (uu.out.sat.blk 0 rfl)))) rfl ?_
  rw [HE.out]
  exact⟨none,0,0,D,rfl,PH.le.refl _,RowsF.nil _,uu.out.drop.drop⟩
 | some r =>
  have HE:=CM (show X.one (i:Int) k sets=X.all (i:Int) [r] sets by unfold TxM.one;rw [fQ HM.out,hf])
  obtain⟨hmem,hkey⟩:=dQ hf
  have hro:RowF D (.slice ra rn rc) r:=by have:=xG.out;rw [hf]at this;exact this
  obtain⟨D2,hle2,hrw2,htx2⟩:=om uk.out hro
  have uQ:=CM hle2
  have uE:=CM (pg HM.out HC.out wy.out Aq.out (rs:=[r]) (fun q hq=>by
   obtain rfl:=List.mem_singleton.1 hq
   exact⟨wy.out.fits _ hmem,by rw [hkey,hf];rfl⟩) hrw2 (vT.out.mono hle2) (by simp) (by simpa using HB.out) htx2)
  clear hf hmem hkey hro hle2 hrw2 htx2 xG uk
  go_wp2_with (first|(go_at_call 97;refine uE.out.mono ?_;rintro e2 w2 ⟨a2,n2,c2,D3,rfl,hle3,hrw3,htx3⟩;have uX:=CM (uQ.out.trans hle3);have xX:=CM hrw3;have uM:=CM htx3;clear hle3 hrw3 htx3 uE)|(refine az rfl _ _ _ rfl bl ba rfl [_,.slice a2 n2 c2,_] rfl aZ uM.out (by kernel_rfl) rfl (by intro u hu;simp at hu;rcases hu with rfl|rfl|rfl<;>rfl) ?_;intro w6 hs6;have uu:=CM hs6;clear hs6 uM))
  refine bodyPost_ret (aR rfl _ _ rfl (bF rfl (aA (uu.out.sat.blk 0 rfl)))) rfl ?_
  rw [HE.out]
  exact⟨a2,n2,c2,D3,rfl,uX.out,xX.out,uu.out.drop.drop⟩
theorem oz {B w:World}{D:PH}{x o i:Nat}{X:TxM}{l:List HP}{m:ay}{c:List Bool}{e:StmE}{s:StmM}(hs:StmOk D e s)(hi:s.table=(i:Int))(hm:X.tabs[i]?=some m)(hc:X.cols[i]?=some c)(hI:TabI c m)(hml:m.length≤200)(hb:X.log.length+1≤10000)(h:TxIn B w D x o X l) :
  Calls Tryz.prog 72 #[.pointer (some ⟨x,0,none⟩),.agg e.cells.toArray] w (d4 B D x o l (X.one s.table s.key s.sets)):=by
 obtain⟨W0,hW0,h2⟩:=dN h e.cells.toArray aZ tSt bl
 have uI:=CM hW0
 have HP:=CM (oL (k:=s.key) hm hc hI hml hs.sets hb h2)
 rw [←hi]at HP
 have uv:=CM h2
 have vK:=CM hs.table
 have Ap:=CM hs.key
 clear h hs hi hm hc hI hml hb hW0 h2
 go_enter Tryz.func72,Tryz.ntmps72
 go_upto_region 1 with fail
 rw [←uI.out]
 clear uI
 generalize w.heap.size+1=ba at uv HP ⊢
 generalize w.heap.size=bs at uv HP ⊢
 obtain⟨x0,x2,x3,x4,x5,x6,x7,x17,x18,x19⟩:=bj (uv.out.sat.blk 1 rfl)
 rw [vK.out]at x2
 rw [Ap.out]at x3 x4 x5
 go_wp2_with (first|(go_at_call 95;refine HP.out.mono ?_;rintro e2 w2 ⟨ra,rn,rc,D2,rfl,hle,hrw,hs2⟩;have uF:=CM hle;have vm:=CM hrw;have ur:=CM hs2;clear hle hrw hs2 HP uv x0 x2 x3 x4 x5 x6 x7 x17 x18 x19)|(refine az rfl _ _ _ rfl bl ba rfl [_,.slice ra rn rc,_] rfl aZ ur.out (by kernel_rfl) rfl (by intro u hu;simp at hu;rcases hu with rfl|rfl|rfl<;>rfl) ?_;intro w6 hs6;have uu:=CM hs6;clear hs6 ur))
 refine bodyPost_ret (aR rfl _ _ rfl (bF rfl (aA (uu.out.sat.blk 0 rfl)))) rfl ?_
 exact⟨ra,rn,rc,D2,rfl,uF.out,vm.out,uu.out.drop.drop⟩
abbrev sS : TypeId:=94
theorem CurE.one (c:CurE):∀u∈c.cells,u.oneCell'=true:=by
 intro u hu
 simp [CurE.cells,PredE.cells,Spn.cells,Val.cells]at hu
 rcases hu with rfl|rfl|rfl|rfl|rfl|rfl|rfl|rfl|rfl|rfl|rfl|rfl|rfl|rfl|rfl|rfl|rfl|rfl|rfl|rfl|rfl|rfl|rfl|rfl|rfl|rfl|rfl<;>rfl
theorem nA (A L cs:List Value)(off:Nat):lay (A++L) (A.length+off) cs=A++lay L off cs:=by
 unfold lay
 rw [List.take_append,List.take_of_length_le (by omega),show A.length+off-A.length=off by omega,List.drop_append,List.drop_of_length_le (l:=A) (by omega),show A.length+off+cs.length-A.length=off+cs.length by omega]
 simp
theorem ol (o:Nat)(lv:Value){sv:List Int}(cs:List CurE)(hs:sv.length=4){n:Nat}(hn:n<cs.length)(c:CurE):lay (aO o lv sv cs).toList (6+n*27) c.cells=(aO o lv sv (cs.set n c)).toList:=by
 have e:∀cs:List CurE,(aO o lv sv cs).toList=((.pointer (some ⟨o,0,none⟩)::lv::sv.map (Value.int .i64))++cs.flatMap CurE.cells):=fun cs=>rfl
 rw [e,e,show 6+n*27=(Value.pointer (some ⟨o,0,none⟩)::lv::sv.map (Value.int .i64)).length+n*27 by simp [hs],nA,oQ CurE.len hn]
theorem gH (o:Nat)(lv:Value){sv:List Int}{cs:List CurE}(hs:sv.length=4){n j:Nat}{c:CurE}{v:Value}(hn:cs[n]?=some c)(hj:c.cells[j]?=some v):(aO o lv sv cs)[6+(n*27+j)]?=some v:=by
 have e:(aO o lv sv cs)=((.pointer (some ⟨o,0,none⟩)::lv::sv.map (Value.int .i64))++cs.flatMap CurE.cells).toArray:=rfl
 rw [e,List.getElem?_toArray,List.getElem?_append_right (by simp [hs])]
 simp only [List.length_cons,List.length_map,hs]
 rw [show 6+(n*27+j)-(4+1+1)=n*27+j by omega]
 exact bH CurE.len cs n c hn j v hj
section
variable {B w : World} {D : PH} {x o n : Nat} {X : TxM} {l : List HP} {m : CurM}
theorem sP (h:TxIn B w D x o X l)(hm:X.curs[n]?=some m):∃c:CurE,nS D c m∧(∀j v,c.cells[j]?=some v→w.cell? ⟨x,6+(n*27+j),none⟩=some v)∧∀j,w.frozen? ⟨x,j,none⟩=false:=by
 obtain⟨H,hH,hs⟩:=h
 have hl:n<H.cs.length:=by rw [hH.curs.len];exact(List.getElem?_eq_some_iff.1 hm).1
 have hc:H.cs[n]?=some H.cs[n]:=List.getElem?_eq_getElem hl
 obtain⟨m',hm',hok⟩:=hH.curs.get hc
 rw [hm]at hm'
 cases hm'
 have hb:=hs.blk 0 rfl
 refine⟨H.cs[n],hok,fun j v hj=>?_,fun j=>by simp [World.frozen?,hb]⟩
 simp only [World.cell?,hb]
 exact gH o H.lv hH.saves hc hj
theorem fy {P:Program}{ops:Array Oper}{rest:List Oper}{oo:Oper}{a:Act}{Q:Exit→Act→World→Prop}(hgd:oo.guard=none)(ty:TypeId)(xo yo:Operand)(ho:oo.op = .store ty xo yo)(off:Nat)(hx:a.eval xo = .pointer (some ⟨x,off,none⟩))(hoff:off=6+n*27)(c:CurE)(hy:a.eval yo = .agg c.cells.toArray)
  (hs:TxIn B w D x o X l) (hn:n<3) (hok:nS D c m) (hi:(P.info? ty).map (·.size)=some 27)
  (h:∀w',TxIn B w' D x o { X with curs:=X.curs.set n m } l→wpList P ops Q rest (a.put oo.dst undef) w'):wpList P ops Q (oo::rest) a w:=by
 subst hoff
 obtain⟨H,hH,hs⟩:=hs
 have hl:n<H.cs.length:=by rw [hH.curs.len,hH.three];exact hn
 refine dK hgd ty xo yo ho tTx x (6+n*27) hx c.cells hy (aO o H.lv X.saves H.cs).toList (by rw [Array.toArray_toList];exact hs) (by rw [CurE.len];exact hi) ?_ (CurE.one c) (fun w' hs'=>h w' ?_)
 ·rw [CurE.len]
  have e:(aO o H.lv X.saves H.cs).toList.length=6+H.cs.length*27:=by
   show((.pointer (some ⟨o,0,none⟩)::H.lv::(X.saves.map (Value.int .i64)++H.cs.flatMap CurE.cells)):List Value).length=_
   rw [List.length_cons,List.length_cons,List.length_append,List.length_map,hH.saves,cz CurE.len]
   omega
  rw [e]
  omega
 ·rw [ol o H.lv H.cs hH.saves hl c]at hs'
  exact⟨⟨H.lv,H.es,H.cs.set n c⟩,⟨hH.log,hH.curs.set hok n,hH.saves,by rw [List.length_set];exact hH.three,hH.small⟩,by rw [Array.toArray_toList]at hs';exact hs'⟩
end
def TxM.close (X:TxM)(s:StmM):TxM×AnsM:=if (X.cur s.cursor).opn then (X.setCur s.cursor lF,cD 0)else (X,cD 161)
def eV : CurE:=⟨false,false,false,0,⟨0,0,⟨false,0,⟨#[]⟩⟩,⟨false,0,⟨#[]⟩⟩,none,0,0,[]⟩,cq,⟨false,0,⟨#[]⟩⟩⟩
theorem ja (D:PH):nS D eV lF:=⟨rfl,rfl,rfl,rfl,rfl,rfl,rfl,.mk _ [] (RdP.nil _ _) (by simp)⟩
theorem mP {X:TxM}{n:Nat}{m:CurM}(h:X.curs[n]?=some m):X.cur (n:Int)=m:=by
 unfold TxM.cur
 rw [Int.toNat_natCast,List.getD_eq_getElem?_getD,h];rfl
theorem pM {B w:World}{D:PH}{x o n:Nat}{X:TxM}{l:List HP}{e:StmE}{s:StmM}{m:CurM}(hs:StmOk D e s)(hi:s.cursor=(n:Int))(hn:n<3)(hm:X.curs[n]?=some m)(h:TxIn B w D x o X l) :
  Calls Tryz.prog 79 #[.pointer (some ⟨x,0,none⟩),.agg e.cells.toArray] w (d4 B D x o l (X.close s)):=by
 obtain⟨W0,hW0,h2⟩:=dN h e.cells.toArray aZ tSt bl
 have uI:=CM hW0
 obtain⟨c,hc,hcell,cf⟩:=sP h2 hm
 have d0:=hcell 0 _ rfl
 rw [Nat.add_zero]at d0
 have uv:=CM h2
 have yC:=CM (show e.cursor=(n:Int)from hs.cursor.trans hi)
 have xF:=CM (show X.close s=if m.opn then ({ X with curs:=X.curs.set n lF },cD 0)else (X,cD 161) by unfold TxM.close;rw [hi,mP hm];rfl)
 have wv:=CM hc.1
 have D0:=CM d0
 have CF:=CM cf
 have hn3:(n:Int)<3:=by omega
 have HN:=CM hn
 clear h hs hi hW0 h2 hcell hc hm d0 cf
 go_enter Tryz.func79,Tryz.ntmps79
 go_upto_region 1 with fail
 rw [←uI.out]
 clear uI
 generalize w.heap.size+1=ba at uv ⊢
 generalize w.heap.size=bs at uv ⊢
 obtain⟨x0,x2,x3,x4,x5,x6,x7,x17,x18,x19⟩:=bj (uv.out.sat.blk 1 rfl)
 rw [yC.out]at x18
 have d0:=D0.out
 refine af [(0,false,999),(1,false,999),(2,false,999),(3,false,999),(4,false,999),(5,false,999),(6,false,999),(7,false,999),(8,false,999)] (by kernel_rfl) (by kernel_rfl) ?_
 iterate 9 (refine ae rfl rfl (fun K hK=>?_);go_simp;refine hK _ ?_;clear hK K)
 refine ah ?_
 have uk:=CM (uv.out.kept (Kept.refl (fun _=>False) W0).drew)
 clear uv d0 D0 CF x0 x2 x3 x4 x5 x6 x7 x17 x18 x19
 generalize W0.drew=W1 at uk ⊢
 cases hop:m.opn with
 | false =>
  rw [wv.out,hop]
  have HE:=CM (show X.close s=(X,cD 161) by rw [xF.out,hop];rfl)
  clear hop
  go_wp2_with (refine az rfl _ _ _ rfl bl ba rfl [.int .i64 161,.slice none 0 0,.int .i64 0] rfl aZ uk.out (by kernel_rfl) rfl (by intro u hu;simp at hu;rcases hu with rfl|rfl|rfl<;>rfl) ?_;intro w6 hs6;have uu:=CM hs6;clear hs6 uk)
  refine bodyPost_ret (aR rfl _ _ rfl (bF rfl (aA (uu.out.sat.blk 0 rfl)))) rfl ?_
  rw [HE.out]
  exact⟨none,0,0,D,rfl,PH.le.refl _,RowsF.nil _,uu.out.drop.drop⟩
 | true =>
  rw [wv.out,hop]
  have HE:=CM (show X.close s=({ X with curs:=X.curs.set n lF },cD 0) by rw [xF.out,hop];rfl)
  clear hop
  obtain⟨x0,x2,x3,x4,x5,x6,x7,x17,x18,x19⟩:=bj (uk.out.sat.blk 1 rfl)
  rw [yC.out]at x18
  go_upto_region 3 with fail
  refine af [(0,false,7),(1,false,7),(2,false,7),(3,false,7),(4,false,7),(5,false,7),(6,false,7),(7,true,0)] (by kernel_rfl) (by kernel_rfl) ?_
  iterate 7 (refine ae rfl rfl (fun K hK=>?_);go_simp;refine hK _ ?_;clear hK K)
  refine ag rfl ?_
  refine fy (n:=n) rfl _ _ _ rfl _ rfl rfl eV rfl (uk.out.kept (Kept.refl (fun _=>False) W1).drew) HN.out (ja D) (by kernel_rfl) ?_
  intro w3 htx3
  refine wpList_nil ?_
  have ut:=CM htx3
  clear htx3 uk x0 x2 x3 x4 x5 x6 x7 x17 x18 x19
  refine And.intro ?_ ?_
  ·go_simp
  refine ah ?_
  go_wp2_with (refine az rfl _ _ _ rfl bl ba rfl [.int .i64 0,.slice none 0 0,.int .i64 0] rfl aZ ut.out (by kernel_rfl) rfl (by intro u hu;simp at hu;rcases hu with rfl|rfl|rfl<;>rfl) ?_;intro w6 hs6;have uu:=CM hs6;clear hs6 ut)
  refine bodyPost_ret (aR rfl _ _ rfl (bF rfl (aA (uu.out.sat.blk 0 rfl)))) rfl ?_
  rw [HE.out]
  exact⟨none,0,0,D,rfl,PH.le.refl _,RowsF.nil _,uu.out.drop.drop⟩
def TxM.opens (X:TxM)(s:StmM):TxM×AnsM:=(X.setCur s.cursor ⟨true,s.change,false,s.table,s.pred,cq,default⟩,cD 0)
theorem bX {w:World}{b:Nat}{x:StmE}{t:TypeId}{fr:Nat×Nat}(h:w.heap[b]?=some (.cells x.cells.toArray t fr)) :
  w.cell? ⟨b,8,none⟩=some (.int .i64 x.pe.op)∧w.cell? ⟨b,9,none⟩=some (.int .i64 x.pe.col)∧w.cell? ⟨b,10,none⟩=some (.bool x.pe.v.t)∧w.cell? ⟨b,11,none⟩=some (.int .i64 x.pe.v.n)∧w.cell? ⟨b,12,none⟩=some (.string x.pe.v.s) ∧
   w.cell? ⟨b,13,none⟩=some (.bool x.pe.w.t)∧w.cell? ⟨b,14,none⟩=some (.int .i64 x.pe.w.n)∧w.cell? ⟨b,15,none⟩=some (.string x.pe.w.s)∧w.cell? ⟨b,16,none⟩=some (.slice x.pe.la x.pe.ln x.pe.lc):=by
 refine⟨?_,?_,?_,?_,?_,?_,?_,?_,?_⟩<;>simp [World.cell?,h,StmE.cells]
def curE1 (e:StmE):CurE:=⟨true,e.change,false,e.table,e.pe,cq,⟨false,0,⟨#[]⟩⟩⟩
theorem rz {B w:World}{D:PH}{x o n:Nat}{X:TxM}{l:List HP}{e:StmE}{s:StmM}(hs:StmOk D e s)(hi:s.cursor=(n:Int))(hn:n<3)(h:TxIn B w D x o X l) :
  Calls Tryz.prog 77 #[.pointer (some ⟨x,0,none⟩),.agg e.cells.toArray] w (d4 B D x o l (X.opens s)):=by
 obtain⟨W0,hW0,h2⟩:=dN h e.cells.toArray aZ tSt bl
 have uI:=CM hW0
 have uv:=CM h2
 have yC:=CM (show e.cursor=(n:Int)from hs.cursor.trans hi)
 have xF:=CM (show X.opens s=({ X with curs:=X.curs.set n ⟨true,s.change,false,s.table,s.pred,cq,default⟩ },cD 0) by unfold TxM.opens;rw [hi];rfl)
 have vp:=CM (show nS D (curE1 e) ⟨true,s.change,false,s.table,s.pred,cq,default⟩from⟨rfl,hs.change,rfl,hs.table,hs.pred,rfl,rfl,hs.subs⟩)
 have hn3:(n:Int)<3:=by omega
 have HN:=CM hn
 clear h hs hi hW0 h2
 go_enter Tryz.func77,Tryz.ntmps77
 go_upto_region 1 with fail
 rw [←uI.out]
 clear uI
 generalize w.heap.size+1=ba at uv ⊢
 generalize w.heap.size=bs at uv ⊢
 obtain⟨x0,x2,x3,x4,x5,x6,x7,x17,x18,x19⟩:=bj (uv.out.sat.blk 1 rfl)
 rw [yC.out]at x18
 obtain⟨z0,z1,z2,z3,z4,z5,z6,z7,z8⟩:=bX (uv.out.sat.blk 1 rfl)
 refine af [(0,false,13),(1,false,13),(2,false,13),(3,false,13),(4,false,13),(5,false,13),(6,false,13),(7,false,13),(8,false,13),(9,false,13),(10,false,13),(11,false,13),(12,false,13),(13,true,0)] (by kernel_rfl) (by kernel_rfl) ?_
 iterate 13 (refine ae rfl rfl (fun K hK=>?_);go_simp;refine hK _ ?_;clear hK K)
 refine ag rfl ?_
 refine fy (n:=n) rfl _ _ _ rfl _ rfl rfl (curE1 e) rfl (uv.out.kept (Kept.refl (fun _=>False) W0).drew) HN.out vp.out (by kernel_rfl) ?_
 intro w3 htx3
 refine wpList_nil ?_
 have ut:=CM htx3
 clear htx3 uv x0 x2 x3 x4 x5 x6 x7 x17 x18 x19 z0 z1 z2 z3 z4 z5 z6 z7 z8
 refine And.intro ?_ ?_
 ·go_simp
 refine ah ?_
 go_wp2_with (refine az rfl _ _ _ rfl bl ba rfl [.int .i64 0,.slice none 0 0,.int .i64 0] rfl aZ ut.out (by kernel_rfl) rfl (by intro u hu;simp at hu;rcases hu with rfl|rfl|rfl<;>rfl) ?_;intro w6 hs6;have uu:=CM hs6;clear hs6 ut)
 refine bodyPost_ret (aR rfl _ _ rfl (bF rfl (aA (uu.out.sat.blk 0 rfl)))) rfl ?_
 rw [xF.out]
 exact⟨none,0,0,D,rfl,PH.le.refl _,RowsF.nil _,uu.out.drop.drop⟩
end Go.Proofs.YtdobimafhbfkhaaGreat
