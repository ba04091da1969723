/- A cursor moves on (txn.fetch). -/
import Derived.Test.YtdobimafhbfkhaaGreatOT37
set_option maxHeartbeats 64000000
namespace Go.Proofs.YtdobimafhbfkhaaGreat
open Go.ChangeShapes Go.WideShapes Go.ChangeAt Go.RowKit
set_option maxRecDepth 100000
set_option linter.unusedSimpArgs false
theorem md {X:TxM}{k:Int}{m:CurM}{i:Nat}{mt:ay}(hcm:X.cur k=m)(hop:m.opn=true)(hti:m.table=(i:Int))(htab:X.tabs[i]?=some mt)(hr:cS mt m.p m.frm = []):X.fetch k=(X.setCur k { m with stands:=false },cD 162):=by
 have h1:X.hold m.table m.p m.frm = []:=by rw [hti,dP htab,hr]
 unfold TxM.fetch
 rw [hcm,if_neg (by rw [hop];decide),h1]
theorem ld {X:TxM}{k:Int}{m:CurM}{i:Nat}{mt rs:ay}{r:List Val}(hcm:X.cur k=m)(hop:m.opn=true)(hti:m.table=(i:Int))(htab:X.tabs[i]?=some mt)(hr:cS mt m.p m.frm=r::rs):X.fetch k=(X.setCur k { m with stands:=true,key:=aJ r,frm:=⟨false,true,true,aJ r,false,false,default⟩ },⟨0,[r],0⟩):=by
 have h1:X.hold m.table m.p m.frm=r::rs:=by rw [hti,dP htab,hr]
 unfold TxM.fetch
 rw [hcm,if_neg (by rw [hop];decide),h1]
theorem RdP.one {D:PH}{ao:Option Addr}{N cap:Nat}{us:List Value}{u:Value}(h:RdP D 1 (.slice ao N cap) N us)(hu:us[0]?=some u)(hN:0<N):RdP D 1 (.slice ao 1 1) 1 [u]:=by
 obtain⟨h1,h2,ao',cap',h3,h4,h5,h6,h7⟩:=h
 cases h3
 refine⟨rfl,by unfold maxLen;omega,ao,1,rfl,Nat.le_refl _,by unfold maxLen;omega,fun h=>absurd (h6 h) (by omega),?_⟩
 rcases h7 with h7|⟨g,o,rfl,cs,t,fr,h8,h9⟩
 ·omega
 ·refine .inr ⟨g,o,rfl,cs,t,fr,h8,fun j v hv=>?_⟩
  cases j with
  | zero=>simp at hv;subst hv;exact h9 0 _ hu
  | succ j=>simp at hv
theorem RowsF.head {D:PH}{ao:Option Addr}{N cap:Nat}{us:List Value}{u:Value}{r:List Val}(h:RdP D 1 (.slice ao N cap) N us)(hu:us[0]?=some u)(hN:0<N)(hr:RowD D u r)(hf:bR r)(h1:u.oneCell'=true):RowsF D (.slice ao 1 1) [r]:=by
 refine⟨⟨[u],rfl,by intro v hv;simp at hv;subst hv;exact h1,h.one hu hN,fun j v q hv hq=>?_⟩,by intro q hq;simp at hq;subst hq;exact hf⟩
 cases j with
 | zero=>simp at hv hq;subst hv hq;exact hr
 | succ j=>simp at hv
theorem pj {B w:World}{D:PH}{x o n:Nat}{X:TxM}{l:List HP}{e:StmE}{s:StmM}{m:CurM}(hs:StmOk D e s)(hi:s.cursor=(n:Int))(hn:n<3)(hm:X.curs[n]?=some m)
  (hcur:m.opn=true→∃i mt,m.table=((i:Nat):Int)∧X.tabs[i]?=some mt∧(∀r∈mt,0<r.length∧r.length≤1000000)) (h:TxIn B w D x o X l) :
  Calls Tryz.prog 78 #[.pointer (some ⟨x,0,none⟩),.agg e.cells.toArray] w (d4 B D x o l (X.fetch s.cursor)):=by
 obtain⟨W0,hW0,h2⟩:=dN h e.cells.toArray aZ tSt bl
 have uI:=CM hW0
 obtain⟨H,hH,hsat⟩:=h2
 have hln:n<H.cs.length:=by rw [hH.curs.len];exact(List.getElem?_eq_some_iff.1 hm).1
 obtain⟨c,hc⟩:∃c,H.cs[n]?=some c:=⟨H.cs[n],List.getElem?_eq_getElem hln⟩
 obtain⟨m',hm',hok⟩:=hH.curs.get hc
 rw [hm]at hm'
 cases hm'
 have HH:=CM hH
 have HC:=CM hc
 have vp:=CM hok
 have wm:=CM hH.saves
 have uv:=CM hsat
 have yC:=CM (show e.cursor=(n:Int)from hs.cursor.trans hi)
 have xC:=CM (show X.cur s.cursor=m by rw [hi];exact mP hm)
 have zK:=CM hcur
 have yO:=CM hi
 have hn3:(n:Int)<3:=by omega
 clear h hs hi hW0 hH hsat hln hc hok hm hcur hn
 go_enter Tryz.func78,Tryz.ntmps78
 go_upto_region 1 with fail
 rw [←uI.out]
 clear uI
 generalize w.heap.size+1=ba at uv ⊢
 generalize w.heap.size=bs at uv ⊢
 obtain⟨x0,x2,x3,x4,x5,x6,x7,x17,x18,x19⟩:=bj (uv.out.blk 4 rfl)
 rw [yC.out]at x18
 refine af [(0,false,999),(1,false,999),(2,false,999),(3,false,999),(4,false,999),(5,false,999),(6,false,999)] (by kernel_rfl) (by kernel_rfl) ?_
 iterate 7 (refine ae rfl rfl (fun K hK=>?_);go_simp;refine hK _ ?_;clear hK K)
 refine ah ?_
 have uk:=CM (uv.out.drew)
 clear uv x0 x2 x3 x4 x5 x6 x7 x17 x18 x19
 generalize W0.drew=W1 at uk ⊢
 obtain⟨hcc,cf⟩:=mU uk.out wm.out HC.out
 obtain⟨q0,-,q3,⟨q4,q5,q6,q7,q8,q9,q10,q11,q12⟩,⟨q13,q14,q15,q16,q17,q18,q19,q20,q21,q22,q23⟩,-⟩:=sh hcc
 rw [vp.out.1]at q0
 clear hcc cf
 cases hop:m.opn with
 | false =>
  rw [hop]at q0
  have HE:=CM (show X.fetch s.cursor=(X,cD 161) by unfold TxM.fetch;rw [xC.out,hop];rfl)
  have HT:=CM (show TxIn B W1 D x o X (blk ba aZ bl::blk bs e.cells.toArray tSt::l)from⟨H,HH.out,uk.out⟩)
  clear hop uk
  go_wp2_with (refine az rfl _ _ _ rfl bl ba rfl [.int .i64 161,.slice none 0 0,.int .i64 0] rfl aZ HT.out (by kernel_rfl) rfl (by intro u hu;simp at hu;rcases hu with rfl|rfl|rfl<;>rfl) ?_;intro w6 hs6;have uu:=CM hs6;clear hs6 HT)
  refine bodyPost_ret (aR rfl _ _ rfl (bF rfl (aA (uu.out.sat.blk 0 rfl)))) rfl ?_
  rw [HE.out]
  exact⟨none,0,0,D,rfl,PH.le.refl _,RowsF.nil _,uu.out.drop.drop⟩
 | true =>
  obtain⟨i,mt,hti,htab,hrl⟩:=zK.out hop
  rw [hop]at q0
  rw [vp.out.2.2.2.1,hti]at q3
  have wv:=CM hop
  have wy:=CM hti
  have vK:=CM htab
  have yA:=CM hrl
  have vL:=CM (m9 (pe:=c.pe) c.frm (O:=⟨X.cols,X.tabs⟩) htab (fun r hr=>(hrl r hr).2) vp.out.2.2.2.2.2.2.2 (ik uk.out.drew))
  obtain⟨c0,-,-⟩:=cW uk.out
  clear hop hti htab hrl
  go_upto_region 4 with fail
  refine af [(0,false,16),(1,false,16),(2,false,16),(3,false,16),(4,false,16),(5,false,16),(6,false,16),(7,false,16),(8,false,16),(9,false,16),(10,false,16),(11,false,16),(12,false,16),(13,false,16),(14,false,16),(15,false,16),(16,true,0),(17,false,999)] (by kernel_rfl) (by kernel_rfl) ?_
  iterate 16 (refine ae rfl rfl (fun K hK=>?_);go_simp;refine hK _ ?_;clear hK K)
  refine ag rfl ?_
  refine au rfl (fun K hK=>?_)
  go_simp
  refine vL.out.mono ?_
  rintro e1 w1 ⟨ra,rn,rc,D2,rfl,hle,hrw,hs2⟩
  have hnn:=i4 hrw
  subst hnn
  have ur:=CM (fR hs2)
  have uF:=CM hle
  have vm:=CM hrw
  have yq:=CM (HH.out.mono hle)
  rw [vp.out.2.2.2.2.1,vp.out.2.2.2.2.2.1]at vm ⊢
  clear hs2 hle hrw vL uk c0 q0 q3 q4 q5 q6 q7 q8 q9 q10 q11 q12 q13 q14 q15 q16 q17 q18 q19 q20 q21 q22 q23
  obtain⟨hcc,cf⟩:=mU ur.out wm.out HC.out
  obtain⟨q0,q2,q3,⟨q4,q5,q6,q7,q8,q9,q10,q11,q12⟩,⟨q13,q14,q15,q16,q17,q18,q19,q20,q21,q22,q23⟩,-⟩:=sh hcc
  obtain⟨c0,-,-⟩:=cW ur.out
  clear hcc
  refine hK _ _ ?_
  clear hK K
  refine wpList_nil ?_
  refine And.intro ?_ ?_
  ·go_simp
  refine ae rfl rfl (fun K hK=>?_);go_simp;refine hK _ ?_;clear hK K
  refine ah ?_
  cases hrs:cS mt m.p m.frm with
  | nil =>
   have xZ:=CM (show X.fetch s.cursor=({ X with curs:=X.curs.set n { m with stands:=false } },cD 162) by rw [md xC.out wv.out wy.out vK.out hrs,yO.out];rfl)
   have ut:=CM (show TxIn B _ D2 x o { X with curs:=X.curs.set n { m with stands:=false } } (blk ba aZ bl::blk bs e.cells.toArray tSt::l)from⟨⟨H.lv,H.es,H.cs.set n { c with stands:=false }⟩,⟨yq.out.log,yq.out.curs.set (a:={ c with stands:=false }) (b:={ m with stands:=false }) ⟨vp.out.1,vp.out.2.1,rfl,vp.out.2.2.2.1,vp.out.2.2.2.2.1,vp.out.2.2.2.2.2.1,vp.out.2.2.2.2.2.2.1,vp.out.2.2.2.2.2.2.2.mono uF.out⟩ n,yq.out.saves,by rw [List.length_set];exact yq.out.three,yq.out.small⟩,qx (k:=2) (c':={ c with stands:=false }) ur.out wm.out HC.out (by decide) (.bool false) rfl⟩)
   clear hrs vm
   rw [List.length_nil]
   go_wp2_with (refine az rfl _ _ _ rfl bl ba rfl [.int .i64 162,.slice none 0 0,.int .i64 0] rfl aZ ut.out (by kernel_rfl) rfl (by intro u hu;simp at hu;rcases hu with rfl|rfl|rfl<;>rfl) ?_;intro w6 hs6;have uu:=CM hs6;clear hs6 ut)
   refine bodyPost_ret (aR rfl _ _ rfl (bF rfl (aA (uu.out.sat.blk 0 rfl)))) rfl ?_
   rw [xZ.out]
   exact⟨none,0,0,D2,rfl,uF.out,RowsF.nil _,uu.out.drop.drop⟩
  | cons r rs =>
   obtain⟨i0,htab0,hrl0⟩:∃u,cS mt m.p m.frm=r::rs∧r∈mt:=⟨(),hrs,fq (by rw [hrs];exact List.mem_cons_self ..)⟩
   have hpos:=(yA.out r hrl0).1
   obtain⟨k,hk⟩:∃k,r[0]?=some k:=⟨r[0],List.getElem?_eq_getElem _⟩
   have hkr:aJ r=k:=by unfold aJ;rw [←List.head?_eq_getElem?]at hk;cases r with|nil=>cases hk|cons a t=>simp at hk;subst hk;rfl
   have xZ:=CM (show X.fetch s.cursor=({ X with curs:=X.curs.set n { m with stands:=true,key:=k,frm:=⟨false,true,true,k,false,false,default⟩ } },⟨0,[r],0⟩) by rw [ld xC.out wv.out wy.out vK.out hrs,yO.out,hkr];rfl)
   have ut:=CM (qx (k:=2) (c':={ c with stands:=true }) ur.out wm.out HC.out (by decide) (.bool true) rfl)
   rw [hrs]at vm
   obtain⟨⟨us,hu1,hu2,hu3,hu4⟩,hfit⟩:=vm.out
   obtain⟨N,hN⟩:∃N,(r::rs).length=N:=⟨_,rfl⟩
   have hNp:(0:Int)<(N:Int):=by rw [←hN,List.length_cons];omega
   have hNp2:0<N:=by omega
   rw [hN]at hu3 ⊢
   obtain⟨u,hu⟩:∃u,us[0]?=some u:=⟨us[0]'(by rw [hu1,List.length_cons];omega),List.getElem?_eq_getElem _⟩
   have HU:=CM hu
   have xj:=CM hu3
   have uw:=CM (hu4 0 u r hu rfl)
   have Bv:=CM (hfit r (List.mem_cons_self ..))
   have vP:=CM hk
   have we:=CM hN
   have hpos2:(0:Int)<(r.length:Int):=by omega
   clear hrs vm hu1 hu2 hu3 hu4 hfit hu hk hkr hrl0 htab0 hN hpos
   go_upto_region 6 with fail
   go_upto_region 8 with fail
   obtain⟨W3,hW3⟩:∃W,W=w1.setCell ⟨x,6+n*27+2,none⟩ (.bool true):=⟨_,rfl⟩
   rw [←hW3]at ut ⊢
   clear hW3 ur cf c0 q0 q2 q3 q4 q5 q6 q7 q8 q9 q10 q11 q12 q13 q14 q15 q16 q17 q18 q19 q20 q21 q22 q23
   obtain⟨ao,rcc,rfl⟩:∃ao rc,u = .slice ao r.length rc:=by obtain⟨_,_,ao,rc,h,_⟩:=uw.out;exact⟨ao,rc,h⟩
   obtain⟨rg,rog,rfl⟩:=ef (RdP.rd uw.out ut.out) vP.out rfl
   obtain⟨y0,y1,y2⟩:=aM (h:=0) (RdP.rd uw.out ut.out) vP.out
   rw [Nat.zero_mul,Nat.add_zero]at y0 y1 y2
   have Cx:=CM (RowsF.head xj.out HU.out hNp2 uw.out Bv.out rfl)
   obtain⟨fg,fo,rfl,hcu,hrc⟩:∃fg fo,ra=some ⟨fg,fo,none⟩∧W3.cell? ⟨fg,fo,none⟩=some (.slice (some ⟨rg,rog,none⟩) r.length rcc)∧N≤rc:=by
    obtain⟨_,_,ao,cap,hv,hrc,_,_,hcell⟩:=xj.out.rd ut.out
    cases hv
    rcases hcell with h0|⟨g,og,hg,hcc⟩
    ·omega
    ·exact⟨g,og,hg,hcc 0 _ HU.out,hrc⟩
   have hrc1:1≤rc:=by omega
   have hrc2:(1:Int)≤(rc:Int):=by omega
   generalize r.length=RN at *
   have hn3':n<H.cs.length:=(List.getElem?_eq_some_iff.1 HC.out).1
   have HN:=CM hn3'
   clear hn3'
   go_upto_region 9 with (refine eU (n:=n) (k:=24) rfl _ _ _ rfl _ rfl rfl [.bool k.t,.int .i64 k.n,.string k.s] rfl ut.out wm.out (List.getElem?_set_self HN.out) (by simp) (c':={ c with stands:=true,key:=k }) rfl (by intro u hu;simp at hu;rcases hu with rfl|rfl|rfl<;>rfl) (by kernel_rfl) ?_;intro w4 hs4;have uy:=CM hs4;clear hs4 ut hcu y0 y1 y2)
   obtain⟨hcc,cf⟩:=mU uy.out wm.out (List.getElem?_set_self (by rw [List.length_set];exact HN.out))
   obtain⟨-,-,-,-,-,q24,q25,q26⟩:=sh hcc
   clear hcc cf
   go_upto_region 10 with (refine eU (n:=n) (k:=13) rfl _ _ _ rfl _ rfl rfl [.bool false,.bool true,.bool true,.bool k.t,.int .i64 k.n,.string k.s,.bool false,.bool false,.bool false,.int .i64 0,.string ⟨#[]⟩] rfl uy.out wm.out (List.getElem?_set_self (by rw [List.length_set];exact HN.out)) (by simp) (c':={ c with stands:=true,key:=k,frm:=⟨false,true,true,k,false,false,default⟩ }) rfl (by intro u hu;simp at hu;rcases hu with rfl|rfl|rfl|rfl|rfl|rfl|rfl|rfl|rfl|rfl|rfl<;>rfl) (by kernel_rfl) ?_;intro w5 hs5;have uA:=CM hs5;clear hs5 uy q24 q25 q26)
   have uR:=CM (show TxIn B w5 D2 x o { X with curs:=X.curs.set n { m with stands:=true,key:=k,frm:=⟨false,true,true,k,false,false,default⟩ } } (blk ba aZ bl::blk bs e.cells.toArray tSt::l)from⟨⟨H.lv,H.es,((H.cs.set n _).set n _).set n _⟩,⟨yq.out.log,by
    rw [List.set_set,List.set_set]
    exact yq.out.curs.set (a:={ c with stands:=true,key:=k,frm:=⟨false,true,true,k,false,false,default⟩ }) (b:={ m with stands:=true,key:=k,frm:=⟨false,true,true,k,false,false,default⟩ }) ⟨vp.out.1,vp.out.2.1,rfl,vp.out.2.2.2.1,vp.out.2.2.2.2.1,rfl,rfl,vp.out.2.2.2.2.2.2.2.mono uF.out⟩ n,yq.out.saves,by rw [List.length_set];exact yq.out.three,yq.out.small⟩,uA.out⟩)
   clear uA
   go_wp2_with (refine az rfl _ _ _ rfl bl ba rfl [.int .i64 0,.slice (some ⟨fg,fo,none⟩) 1 1,.int .i64 0] rfl aZ uR.out (by kernel_rfl) rfl (by intro u hu;simp at hu;rcases hu with rfl|rfl|rfl<;>rfl) ?_;intro w6 hs6;have uu:=CM hs6;clear hs6 uR)
   refine bodyPost_ret (aR rfl _ _ rfl (bF rfl (aA (uu.out.sat.blk 0 rfl)))) rfl ?_
   rw [xZ.out]
   exact⟨_,1,1,D2,rfl,uF.out,Cx.out,uu.out.drop.drop⟩
end Go.Proofs.YtdobimafhbfkhaaGreat
