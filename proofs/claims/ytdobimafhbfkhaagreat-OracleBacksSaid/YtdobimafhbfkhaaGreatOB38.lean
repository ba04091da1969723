/- A cursor moves on (txn.fetch). -/
import Derived.Test.YtdobimafhbfkhaaGreatOB37
set_option maxHeartbeats 64000000
namespace Go.Proofs.YtdobimafhbfkhaaGreat
open Go.ChangeShapes Go.WideShapes Go.ChangeAt Go.RowKit
set_option maxRecDepth 100000
set_option linter.unusedSimpArgs false
theorem lS {X:TxM}{k:Int}{m:CurM}{i:Nat}{mt:ar}(hcm:X.cur k=m)(hop:m.opn=true)(hti:m.table=(i:Int))(htab:X.tabs[i]?=some mt)(hr:cL mt m.p m.frm = []):X.fetch k=(X.setCur k { m with stands:=false },cd 162):=by
 have h1:X.hold m.table m.p m.frm = []:=by rw [hti,cX htab,hr]
 unfold TxM.fetch
 rw [hcm,if_neg (by rw [hop];decide),h1]
theorem kT {X:TxM}{k:Int}{m:CurM}{i:Nat}{mt rs:ar}{r:List Val}(hcm:X.cur k=m)(hop:m.opn=true)(hti:m.table=(i:Int))(htab:X.tabs[i]?=some mt)(hr:cL mt m.p m.frm=r::rs):X.fetch k=(X.setCur k { m with stands:=true,key:=aG r,frm:=⟨false,true,true,aG r,false,false,default⟩ },⟨0,[r],0⟩):=by
 have h1:X.hold m.table m.p m.frm=r::rs:=by rw [hti,cX htab,hr]
 unfold TxM.fetch
 rw [hcm,if_neg (by rw [hop];decide),h1]
theorem RdP.one {D:PH}{ao:Option Addr}{N cap:Nat}{us:List Value}{u:Value}(h:RdP D 1 (.slice ao N cap) N us)(hu:us[0]?=some u)(hN:0<N):RdP D 1 (.slice ao 1 1) 1 [u]:=by
 obtain⟨h1,h2,ao',cap',h3,h4,h5,h6,h7⟩:=h
 cases h3
 refine⟨rfl,by unfold maxLen;omega,ao,1,rfl,Nat.le_refl _,by unfold maxLen;omega,fun h=>absurd (h6 h) (by omega),?_⟩
 rcases h7 with h7|⟨g,o,rfl,cs,t,fr,h8,h9⟩
 ·omega
 ·refine .inr ⟨g,o,rfl,cs,t,fr,h8,fun j v hv=>?_⟩
  cases j with
  | zero=>simp at hv;subst hv;exact h9 0 _ hu
  | succ j=>simp at hv
theorem RowsF.head {D:PH}{ao:Option Addr}{N cap:Nat}{us:List Value}{u:Value}{r:List Val}(h:RdP D 1 (.slice ao N cap) N us)(hu:us[0]?=some u)(hN:0<N)(hr:RowD D u r)(hf:bD r)(h1:u.oneCell'=true):RowsF D (.slice ao 1 1) [r]:=by
 refine⟨⟨[u],rfl,by intro v hv;simp at hv;subst hv;exact h1,h.one hu hN,fun j v q hv hq=>?_⟩,by intro q hq;simp at hq;subst hq;exact hf⟩
 cases j with
 | zero=>simp at hv hq;subst hv hq;exact hr
 | succ j=>simp at hv
theorem pR {B w:World}{D:PH}{x o n:Nat}{X:TxM}{l:List HP}{e:StmE}{s:StmM}{m:CurM}(hs:StmOk D e s)(hi:s.cursor=(n:Int))(hn:n<3)(hm:X.curs[n]?=some m)
  (hcur:m.opn=true→∃i mt,m.table=((i:Nat):Int)∧X.tabs[i]?=some mt∧(∀r∈mt,0<r.length∧r.length≤1000000)) (h:TxIn B w D x o X l) :
  Calls Tryz.prog 78 #[.pointer (some ⟨x,0,none⟩),.agg e.cells.toArray] w (dV B D x o l (X.fetch s.cursor)):=by
 obtain⟨W0,hW0,h2⟩:=dL h e.cells.toArray aZ tSt bq
 have ul:=B5 hW0
 obtain⟨H,hH,hsat⟩:=h2
 have hln:n<H.cs.length:=by rw [hH.curs.len];exact(List.getElem?_eq_some_iff.1 hm).1
 obtain⟨c,hc⟩:∃c,H.cs[n]?=some c:=⟨H.cs[n],List.getElem?_eq_getElem hln⟩
 obtain⟨m',hm',hok⟩:=hH.curs.get hc
 rw [hm]at hm'
 cases hm'
 have HH:=B5 hH
 have HC:=B5 hc
 have uO:=B5 hok
 have vt:=B5 hH.saves
 have tO:=B5 hsat
 have xL:=B5 (show e.cursor=(n:Int)from hs.cursor.trans hi)
 have wM:=B5 (show X.cur s.cursor=m by rw [hi];exact mv hm)
 have yR:=B5 hcur
 have Bg:=B5 hi
 have hn3:(n:Int)<3:=by omega
 clear h hs hi hW0 hH hsat hln hc hok hm hcur hn
 go_enter Tryz.func78,Tryz.ntmps78
 go_upto_region 1 with fail
 rw [←ul.out]
 clear ul
 generalize w.heap.size+1=ba at tO ⊢
 generalize w.heap.size=bs at tO ⊢
 obtain⟨x0,x2,x3,x4,x5,x6,x7,x17,x18,x19⟩:=bQ (tO.out.blk 4 rfl)
 rw [xL.out]at x18
 refine af [(0,false,999),(1,false,999),(2,false,999),(3,false,999),(4,false,999),(5,false,999),(6,false,999)] (by kernel_rfl) (by kernel_rfl) ?_
 iterate 7 (refine ae rfl rfl (fun K hK=>?_);go_simp;refine hK _ ?_;clear hK K)
 refine ai ?_
 have tD:=B5 (tO.out.drew)
 clear tO x0 x2 x3 x4 x5 x6 x7 x17 x18 x19
 generalize W0.drew=W1 at tD ⊢
 obtain⟨hcc,cf⟩:=mP tD.out vt.out HC.out
 obtain⟨q0,-,q3,⟨q4,q5,q6,q7,q8,q9,q10,q11,q12⟩,⟨q13,q14,q15,q16,q17,q18,q19,q20,q21,q22,q23⟩,-⟩:=sD hcc
 rw [uO.out.1]at q0
 clear hcc cf
 cases hop:m.opn with
 | false =>
  rw [hop]at q0
  have HE:=B5 (show X.fetch s.cursor=(X,cd 161) by unfold TxM.fetch;rw [wM.out,hop];rfl)
  have HT:=B5 (show TxIn B W1 D x o X (blk ba aZ bq::blk bs e.cells.toArray tSt::l)from⟨H,HH.out,tD.out⟩)
  clear hop tD
  go_wp2_with (refine ay rfl _ _ _ rfl bq ba rfl [.int .i64 161,.slice none 0 0,.int .i64 0] rfl aZ HT.out (by kernel_rfl) rfl (by intro u hu;simp at hu;rcases hu with rfl|rfl|rfl<;>rfl) ?_;intro w6 hs6;have tJ:=B5 hs6;clear hs6 HT)
  refine bodyPost_ret (aR rfl _ _ rfl (bE rfl (aA (tJ.out.sat.blk 0 rfl)))) rfl ?_
  rw [HE.out]
  exact⟨none,0,0,D,rfl,PH.le.refl _,RowsF.nil _,tJ.out.drop.drop⟩
 | true =>
  obtain⟨i,mt,hti,htab,hrl⟩:=yR.out hop
  rw [hop]at q0
  rw [uO.out.2.2.2.1,hti]at q3
  have vA:=B5 hop
  have vB:=B5 hti
  have u9:=B5 htab
  have xK:=B5 hrl
  have u4:=B5 (mX (pe:=c.pe) c.frm (O:=⟨X.cols,X.tabs⟩) htab (fun r hr=>(hrl r hr).2) uO.out.2.2.2.2.2.2.2 (gY tD.out.drew))
  obtain⟨c0,-,-⟩:=cQ tD.out
  clear hop hti htab hrl
  go_upto_region 4 with fail
  refine af [(0,false,16),(1,false,16),(2,false,16),(3,false,16),(4,false,16),(5,false,16),(6,false,16),(7,false,16),(8,false,16),(9,false,16),(10,false,16),(11,false,16),(12,false,16),(13,false,16),(14,false,16),(15,false,16),(16,true,0),(17,false,999)] (by kernel_rfl) (by kernel_rfl) ?_
  iterate 16 (refine ae rfl rfl (fun K hK=>?_);go_simp;refine hK _ ?_;clear hK K)
  refine ah rfl ?_
  refine aq rfl (fun K hK=>?_)
  go_simp
  refine u4.out.mono ?_
  rintro e1 w1 ⟨ra,rn,rc,D2,rfl,hle,hrw,hs2⟩
  have hnn:=iz hrw
  subst hnn
  have tL:=B5 (fF hs2)
  have ub:=B5 hle
  have uH:=B5 hrw
  have xw:=B5 (HH.out.mono hle)
  rw [uO.out.2.2.2.2.1,uO.out.2.2.2.2.2.1]at uH ⊢
  clear hs2 hle hrw u4 tD c0 q0 q3 q4 q5 q6 q7 q8 q9 q10 q11 q12 q13 q14 q15 q16 q17 q18 q19 q20 q21 q22 q23
  obtain⟨hcc,cf⟩:=mP tL.out vt.out HC.out
  obtain⟨q0,q2,q3,⟨q4,q5,q6,q7,q8,q9,q10,q11,q12⟩,⟨q13,q14,q15,q16,q17,q18,q19,q20,q21,q22,q23⟩,-⟩:=sD hcc
  obtain⟨c0,-,-⟩:=cQ tL.out
  clear hcc
  refine hK _ _ ?_
  clear hK K
  refine wpList_nil ?_
  refine And.intro ?_ ?_
  ·go_simp
  refine ae rfl rfl (fun K hK=>?_);go_simp;refine hK _ ?_;clear hK K
  refine ai ?_
  cases hrs:cL mt m.p m.frm with
  | nil =>
   have yu:=B5 (show X.fetch s.cursor=({ X with curs:=X.curs.set n { m with stands:=false } },cd 162) by rw [lS wM.out vA.out vB.out u9.out hrs,Bg.out];rfl)
   have tH:=B5 (show TxIn B _ D2 x o { X with curs:=X.curs.set n { m with stands:=false } } (blk ba aZ bq::blk bs e.cells.toArray tSt::l)from⟨⟨H.lv,H.es,H.cs.set n { c with stands:=false }⟩,⟨xw.out.log,xw.out.curs.set (a:={ c with stands:=false }) (b:={ m with stands:=false }) ⟨uO.out.1,uO.out.2.1,rfl,uO.out.2.2.2.1,uO.out.2.2.2.2.1,uO.out.2.2.2.2.2.1,uO.out.2.2.2.2.2.2.1,uO.out.2.2.2.2.2.2.2.mono ub.out⟩ n,xw.out.saves,by rw [List.length_set];exact xw.out.three,xw.out.small⟩,qi (k:=2) (c':={ c with stands:=false }) tL.out vt.out HC.out (by decide) (.bool false) rfl⟩)
   clear hrs uH
   rw [List.length_nil]
   go_wp2_with (refine ay rfl _ _ _ rfl bq ba rfl [.int .i64 162,.slice none 0 0,.int .i64 0] rfl aZ tH.out (by kernel_rfl) rfl (by intro u hu;simp at hu;rcases hu with rfl|rfl|rfl<;>rfl) ?_;intro w6 hs6;have tJ:=B5 hs6;clear hs6 tH)
   refine bodyPost_ret (aR rfl _ _ rfl (bE rfl (aA (tJ.out.sat.blk 0 rfl)))) rfl ?_
   rw [yu.out]
   exact⟨none,0,0,D2,rfl,ub.out,RowsF.nil _,tJ.out.drop.drop⟩
  | cons r rs =>
   obtain⟨i0,htab0,hrl0⟩:∃u,cL mt m.p m.frm=r::rs∧r∈mt:=⟨(),hrs,ec (by rw [hrs];exact List.mem_cons_self ..)⟩
   have hpos:=(xK.out r hrl0).1
   obtain⟨k,hk⟩:∃k,r[0]?=some k:=⟨r[0],List.getElem?_eq_getElem _⟩
   have hkr:aG r=k:=by unfold aG;rw [←List.head?_eq_getElem?]at hk;cases r with|nil=>cases hk|cons a t=>simp at hk;subst hk;rfl
   have yu:=B5 (show X.fetch s.cursor=({ X with curs:=X.curs.set n { m with stands:=true,key:=k,frm:=⟨false,true,true,k,false,false,default⟩ } },⟨0,[r],0⟩) by rw [kT wM.out vA.out vB.out u9.out hrs,Bg.out,hkr];rfl)
   have tH:=B5 (qi (k:=2) (c':={ c with stands:=true }) tL.out vt.out HC.out (by decide) (.bool true) rfl)
   rw [hrs]at uH
   obtain⟨⟨us,hu1,hu2,hu3,hu4⟩,hfit⟩:=uH.out
   obtain⟨N,hN⟩:∃N,(r::rs).length=N:=⟨_,rfl⟩
   have hNp:(0:Int)<(N:Int):=by rw [←hN,List.length_cons];omega
   have hNp2:0<N:=by omega
   rw [hN]at hu3 ⊢
   obtain⟨u,hu⟩:∃u,us[0]?=some u:=⟨us[0]'(by rw [hu1,List.length_cons];omega),List.getElem?_eq_getElem _⟩
   have HU:=B5 hu
   have xg:=B5 hu3
   have tM:=B5 (hu4 0 u r hu rfl)
   have AK:=B5 (hfit r (List.mem_cons_self ..))
   have vS:=B5 hk
   have vD:=B5 hN
   have hpos2:(0:Int)<(r.length:Int):=by omega
   clear hrs uH hu1 hu2 hu3 hu4 hfit hu hk hkr hrl0 htab0 hN hpos
   go_upto_region 6 with fail
   go_upto_region 8 with fail
   obtain⟨W3,hW3⟩:∃W,W=w1.setCell ⟨x,6+n*27+2,none⟩ (.bool true):=⟨_,rfl⟩
   rw [←hW3]at tH ⊢
   clear hW3 tL cf c0 q0 q2 q3 q4 q5 q6 q7 q8 q9 q10 q11 q12 q13 q14 q15 q16 q17 q18 q19 q20 q21 q22 q23
   obtain⟨ao,rcc,rfl⟩:∃ao rc,u = .slice ao r.length rc:=by obtain⟨_,_,ao,rc,h,_⟩:=tM.out;exact⟨ao,rc,h⟩
   obtain⟨rg,rog,rfl⟩:=eC (RdP.rd tM.out tH.out) vS.out rfl
   obtain⟨y0,y1,y2⟩:=aN (h:=0) (RdP.rd tM.out tH.out) vS.out
   rw [Nat.zero_mul,Nat.add_zero]at y0 y1 y2
   have BR:=B5 (RowsF.head xg.out HU.out hNp2 tM.out AK.out rfl)
   obtain⟨fg,fo,rfl,hcu,hrc⟩:∃fg fo,ra=some ⟨fg,fo,none⟩∧W3.cell? ⟨fg,fo,none⟩=some (.slice (some ⟨rg,rog,none⟩) r.length rcc)∧N≤rc:=by
    obtain⟨_,_,ao,cap,hv,hrc,_,_,hcell⟩:=xg.out.rd tH.out
    cases hv
    rcases hcell with h0|⟨g,og,hg,hcc⟩
    ·omega
    ·exact⟨g,og,hg,hcc 0 _ HU.out,hrc⟩
   have hrc1:1≤rc:=by omega
   have hrc2:(1:Int)≤(rc:Int):=by omega
   generalize r.length=RN at *
   have hn3':n<H.cs.length:=(List.getElem?_eq_some_iff.1 HC.out).1
   have HN:=B5 hn3'
   clear hn3'
   go_upto_region 9 with (refine eY (n:=n) (k:=24) rfl _ _ _ rfl _ rfl rfl [.bool k.t,.int .i64 k.n,.string k.s] rfl tH.out vt.out (List.getElem?_set_self HN.out) (by simp) (c':={ c with stands:=true,key:=k }) rfl (by intro u hu;simp at hu;rcases hu with rfl|rfl|rfl<;>rfl) (by kernel_rfl) ?_;intro w4 hs4;have tP:=B5 hs4;clear hs4 tH hcu y0 y1 y2)
   obtain⟨hcc,cf⟩:=mP tP.out vt.out (List.getElem?_set_self (by rw [List.length_set];exact HN.out))
   obtain⟨-,-,-,-,-,q24,q25,q26⟩:=sD hcc
   clear hcc cf
   go_upto_region 10 with (refine eY (n:=n) (k:=13) rfl _ _ _ rfl _ rfl rfl [.bool false,.bool true,.bool true,.bool k.t,.int .i64 k.n,.string k.s,.bool false,.bool false,.bool false,.int .i64 0,.string ⟨#[]⟩] rfl tP.out vt.out (List.getElem?_set_self (by rw [List.length_set];exact HN.out)) (by simp) (c':={ c with stands:=true,key:=k,frm:=⟨false,true,true,k,false,false,default⟩ }) rfl (by intro u hu;simp at hu;rcases hu with rfl|rfl|rfl|rfl|rfl|rfl|rfl|rfl|rfl|rfl|rfl<;>rfl) (by kernel_rfl) ?_;intro w5 hs5;have tU:=B5 hs5;clear hs5 tP q24 q25 q26)
   have ut:=B5 (show TxIn B w5 D2 x o { X with curs:=X.curs.set n { m with stands:=true,key:=k,frm:=⟨false,true,true,k,false,false,default⟩ } } (blk ba aZ bq::blk bs e.cells.toArray tSt::l)from⟨⟨H.lv,H.es,((H.cs.set n _).set n _).set n _⟩,⟨xw.out.log,by
    rw [List.set_set,List.set_set]
    exact xw.out.curs.set (a:={ c with stands:=true,key:=k,frm:=⟨false,true,true,k,false,false,default⟩ }) (b:={ m with stands:=true,key:=k,frm:=⟨false,true,true,k,false,false,default⟩ }) ⟨uO.out.1,uO.out.2.1,rfl,uO.out.2.2.2.1,uO.out.2.2.2.2.1,rfl,rfl,uO.out.2.2.2.2.2.2.2.mono ub.out⟩ n,xw.out.saves,by rw [List.length_set];exact xw.out.three,xw.out.small⟩,tU.out⟩)
   clear tU
   go_wp2_with (refine ay rfl _ _ _ rfl bq ba rfl [.int .i64 0,.slice (some ⟨fg,fo,none⟩) 1 1,.int .i64 0] rfl aZ ut.out (by kernel_rfl) rfl (by intro u hu;simp at hu;rcases hu with rfl|rfl|rfl<;>rfl) ?_;intro w6 hs6;have tJ:=B5 hs6;clear hs6 ut)
   refine bodyPost_ret (aR rfl _ _ rfl (bE rfl (aA (tJ.out.sat.blk 0 rfl)))) rfl ?_
   rw [yu.out]
   exact⟨_,1,1,D2,rfl,ub.out,BR.out,tJ.out.drop.drop⟩
end Go.Proofs.YtdobimafhbfkhaaGreat
