/- Joined texts: A statement that is answered with an error, or that reads, changes no row: as data. A statement that is answered with an error, or only reads, has changed no row (OracleErrors): the walk. -/
import Derived.Test.YtdobimafhbfkhaaGreatOE50
import Derived.Test.YtdobimafhbfkhaaGreatOE51
set_option maxHeartbeats 64000000
namespace Go.Proofs.YtdobimafhbfkhaaGreat
set_option linter.unusedSimpArgs false
def fF (k:Int):Bool:=decide (k=7)||decide (k=8)||decide (k=9)||decide (k=11)||decide (k=12)
def ErrI (T:List av)(k:Int)(p:TxM×AnsM):Prop:=(p.2.e≠0→p.2.rows = []∧p.2.n=0)∧(p.1.tabs=T∨(fF k=true∧p.2.e=0∧0<p.2.n))
section
variable {X : TxM} {k : Int}
theorem ErrI.err (e:Int):ErrI X.tabs k (X,cd e):=⟨fun _=>⟨rfl,rfl⟩,.inl rfl⟩
theorem ErrI.same {Y:TxM}(h:Y.tabs=X.tabs)(a:AnsM)(h0:a.e=0):ErrI X.tabs k (Y,a):=⟨fun h=>absurd h0 h,.inl h⟩
theorem ErrI.wrote {Y:TxM}(hk:fF k=true){n:Int}(hn:0<n):ErrI X.tabs k (Y,iG n):=⟨fun h=>absurd rfl h,.inr ⟨hk,rfl,hn⟩⟩
theorem ErrI.all (hk:fF k=true)(t:Int)(l:av)(sets:List SetM):ErrI X.tabs k (X.all t l sets):=by
 unfold TxM.all
 by_cases h0:(cu (X.col t) sets l []).2=0
 ·rw [if_pos h0]
  cases l with
  | nil=>exact .same rfl _ rfl
  | cons r l=>exact .wrote hk (by rw [List.length_cons];omega)
 ·rw [if_neg h0];exact .err _
theorem ErrI.one (hk:fF k=true)(t:Int)(key:Val)(sets:List SetM):ErrI X.tabs k (X.one t key sets):=by
 unfold TxM.one
 cases aU (X.tab t) key with
 | none=>exact .err _
 | some r=>exact .all hk _ _ _
theorem ErrI.drop (hk:fF k=true)(t:Int)(key:Val):ErrI X.tabs k (X.drop t key):=by
 unfold TxM.drop
 cases aU (X.tab t) key with
 | none=>exact .err _
 | some r=>exact .wrote hk (by omega)
end
theorem rZ (cols:List (List Bool))(T:List av)(s:StmM):ErrI T s.kind (cJ (bX cols T) s):=by
 show ErrI (bX cols T).tabs s.kind _
 have hcl:∀n:Int,((bX cols T).cur n).opn=false:=fun n=>by
  unfold TxM.cur bX
  simp only
  rw [List.getD_eq_getElem?_getD]
  match n.toNat with
  | 0=>rfl
  | 1=>rfl
  | 2=>rfl
  | k+3=>rfl
 have hsv:∀n:Int,(bX cols T).saves.getD n.toNat 0=0:=fun n=>by
  unfold bX
  simp only
  rw [List.getD_eq_getElem?_getD]
  match n.toNat with
  | 0=>rfl
  | 1=>rfl
  | 2=>rfl
  | 3=>rfl
  | k+4=>rfl
 generalize bX cols T=X at *
 unfold cJ
 cases okS X.cols s with
 | false=>exact .err _
 | true =>
  rw [if_neg (show ¬((!true)=true) by decide)]
  by_cases h4:s.kind=4
  ·rw [if_pos h4];exact .same rfl _ rfl
  rw [if_neg h4]
  by_cases h5:s.kind=5
  ·rw [if_pos h5]
   unfold TxM.back
   rw [if_pos (hsv _)]
   exact .err _
  rw [if_neg h5]
  by_cases h6:s.kind=6
  ·rw [if_pos h6]
   cases aU (X.tab s.table) s.key with
   | none=>exact .err _
   | some r=>exact .same rfl _ rfl
  rw [if_neg h6]
  by_cases h7:s.kind=7
  ·rw [if_pos h7]
   cases (aU (X.tab s.table) (aI s.row)).isSome
   ·exact .wrote (by rw [h7];rfl) (by omega)
   ·exact .err _
  rw [if_neg h7]
  by_cases h8:s.kind=8
  ·rw [if_pos h8];exact .one (by rw [h8];rfl) _ _ _
  rw [if_neg h8]
  by_cases h9:s.kind=9
  ·rw [if_pos h9];exact .drop (by rw [h9];rfl) _ _
  rw [if_neg h9]
  by_cases h10:s.kind=10
  ·rw [if_pos h10];exact .same rfl _ rfl
  rw [if_neg h10]
  by_cases h11:s.kind=11
  ·rw [if_pos h11];exact .all (by rw [h11];rfl) _ _ _
  rw [if_neg h11]
  by_cases h12:s.kind=12
  ·rw [if_pos h12]
   cases X.hold s.table s.pred bW with
   | nil=>exact .same rfl _ rfl
   | cons r l=>exact .wrote (by rw [h12];rfl) (by rw [List.length_cons];omega)
  rw [if_neg h12]
  by_cases h13:s.kind=13
  ·rw [if_pos h13];exact .same rfl _ rfl
  rw [if_neg h13]
  by_cases h14:s.kind=14
  ·rw [if_pos h14]
   unfold TxM.fetch
   rw [hcl]
   exact .err _
  rw [if_neg h14]
  by_cases h17:s.kind=17
  ·rw [if_pos h17,hcl];exact .err _
  rw [if_neg h17]
  unfold TxM.at_
  rw [hcl]
  exact .err _
end Go.Proofs.YtdobimafhbfkhaaGreat
namespace Go.Proofs.YtdobimafhbfkhaaGreat
open Go.ChangeShapes Go.WideShapes Go.ChangeAt Go.RowKit
set_option maxRecDepth 100000
set_option linter.unusedSimpArgs false
theorem qh {w:World}{v u:Value}{cols:List (List Bool)}{ts:List (List StmM)}{e:StmE}{s:StmM}(ht:TblsAt (aF w) v cols)(hx:TxnL (aF w) u ts)(hs:StmOk (aF w) e s) :
  Calls Tryz.prog 6 #[v,u,.agg e.cells.toArray] w fun r w'=>r = .returned (.bool true)∧Kept (fun _=>False) w w':=by
 obtain⟨va,vc,rfl⟩:∃a c,v = .slice a cols.length c:=by obtain⟨us,_,_,h3,_⟩:=ht;obtain⟨a,c,h⟩:=h3.shape;exact⟨a,c,h⟩
 obtain⟨W1,hW1,h1⟩:∃W,W=w.alloc (.cells e.cells.toArray tSt)∧Sat w (aF w) W [blk w.heap.size e.cells.toArray tSt]:=⟨_,rfl,(Sat.start w).alloc _ _⟩
 have tk:=BO hW1
 have tj:=BO h1
 have HT:=BO ht
 have HX:=BO hx
 have tH:=BO hs
 obtain⟨N,hN⟩:∃N,cols.length=N:=⟨_,rfl⟩
 rw [hN]at HT ⊢
 have HN:=BO hN
 clear hW1 h1 ht hx hs hN
 go_enter Tryz.func6,Tryz.ntmps6
 go_wp2_with fail
 rw [←tk.out]
 generalize w.heap.size=bs at tj ⊢
 refine(sR W1).mono ?_
 rintro e2 w2 ⟨rfl,hk2⟩
 have tt:=BO (tj.out.kept hk2)
 clear hk2 tj tk
 go_wp2_with fail
 refine(rN (HX.out.mono tt.out.pool)).mono ?_
 rintro e3 w3 ⟨b1,rfl,hb1,hk3⟩
 have tp:=BO (tt.out.kept hk3)
 have tl:=BO hb1
 clear hk3 hb1 tt
 have vi:=BO (fy (aA (tp.out.blk 0 rfl)))
 go_wp2_with (refine bE rfl _ _ rfl _ _ rfl _ vi.out ?_)
 refine(rI (tH.out.mono tp.out.pool)).mono ?_
 rintro e4 w4 ⟨b2,rfl,hb2,hk4⟩
 have tz:=BO (tp.out.kept hk4)
 have tn:=BO hb2
 clear hk4 hb2 tp vi
 cases b1 with
 | false =>
  go_wp2_with fail
  refine bodyPost_ret (results_tmp rfl _ _ _) rfl ?_
  exact⟨rfl,tz.out.drop.end_ (PH.le.refl _)⟩
 | true =>
 cases b2 with
 | false =>
  go_wp2_with fail
  refine bodyPost_ret (results_tmp rfl _ _ _) rfl ?_
  exact⟨rfl,tz.out.drop.end_ (PH.le.refl _)⟩
 | true =>
 by_cases h20:N≤20
 case neg =>
  have h20i:(20:Int)<(N:Int):=by omega
  go_wp2_with fail
  refine bodyPost_ret (results_tmp rfl _ _ _) rfl ?_
  exact⟨rfl,tz.out.drop.end_ (PH.le.refl _)⟩
 have h20i:¬((20:Int)<(N:Int)):=by omega
 have xA:=BO (tl.out rfl)
 have wT:=BO (tn.out rfl)
 clear tl tn
 go_wp2_with fail
 refine(qK HT.out HX.out xA.out tz.out).mono ?_
 rintro e5 w5 ⟨D1,le1,hif⟩
 have tJ:=BO le1
 clear le1 tz
 cases hm:gA cols with
 | false =>
  rw [hm,if_neg (by decide)]at hif
  obtain⟨rfl,hs5⟩:=hif
  have HK:=BO (hs5.drop.end_ tJ.out)
  clear hs5 hm
  go_wp2_with fail
  refine bodyPost_ret (results_tmp rfl _ _ _) rfl ?_
  exact⟨rfl,HK.out⟩
 | true =>
  rw [hm,if_pos rfl]at hif
  obtain⟨o,rfl,hs5⟩:=hif
  have tE:=BO hs5
  have HM:=BO hm
  clear hs5 hm
  obtain⟨O,hO⟩:∃O,kj (eR cols) ts=O:=⟨_,rfl⟩
  have hoi:=OrI.runs ts (pT cols) HX.out.fits (by have:=xA.out.2.1;omega)
  rw [hO]at tE hoi
  have yH:=BO hoi
  clear hoi hO
  obtain⟨i0,hi0,hz00,hz01,hz02⟩:=info_parts qo
  have zO:=BO (And.intro hi0 (And.intro hz00 (And.intro hz01 hz02)))
  clear hi0 hz00 hz01 hz02
  go_wp2_with fail
  go_loopw [11,12] (fun wv iv wr=>∃(i:Nat) (sa0:Option Addr) (sc0:Nat) (hs:List Value) (D:PH),wv = .slice sa0 i sc0∧iv = .int .i64 i∧i≤N∧PH.le D1 D∧hs.length=i∧(∀(k:Nat) (h:Value),hs[k]?=some h→RowsF D h (eQ O k))∧Sat w D wr (aC tRs 1 (.slice sa0 i sc0) i hs::orP D o O::blk bs e.cells.toArray tSt :: [])) (fun _ iv _=>N-(intOf iv).toNat)
  case atStart=>exact⟨0,none,0,[],D1,rfl,rfl,Nat.zero_le _,PH.le.refl _,rfl,(fun k h hh=>by simp at hh),tE.out.own_nil tRs 1⟩
  case round =>
   obtain⟨i,sa0,sc0,hs,D,rfl,rfl,hi,hle,hhl,hhs,hsat⟩:=hrel
   have tG:=BO hle
   have uW:=BO hhl
   have xM:=BO hhs
   have tF:=BO hsat
   clear hle hhl hhs hsat tE
   by_cases hlt:i<N
   ·have hii:(i:Int)<(N:Int):=by omega
    have ut:=BO (mO (i:Int) yH.out (tF.out.front 1 rfl))
    go_wp2_with (first|(go_at_call 21;refine ut.out.mono ?_;rintro e6 w6 ⟨ra,rc,D2,rfl,hle2,hr2,hs2⟩;have tL:=BO hle2;have xg:=BO hr2;have ul:=BO ((hs2.alloc #[.slice ra (eQ O i).length rc] tRs).front 2 rfl);have tu:=BO (bU (size:=1) (n:=1) (aw w6 (.cells #[.slice ra (eQ O i).length rc] tRs)) rfl (by unfold maxLen;omega));clear hle2 hr2 hs2 ut tF)|(at_builtin;refine aK _ rfl _ _ 43 rfl tRs i0 _ 1 24 Tryz.underlying43 zO.out.1 zO.out.2.1 zO.out.2.2.1 zO.out.2.2.2 rfl _ i _ rfl ul.out _ 1 _ rfl tu.out (by intro u hu;simp at hu;subst hu;rfl) (by unfold maxLen;omega) (by omega) ?_;intro v7 w7 hs7 h17;obtain⟨qa,qc,rfl⟩:=hs7.own_shape;have ue:=BO hs7;clear hs7 h17 ul tu))
    go_roundw
    case rel =>
     have hfin:Sat w D2 w7 (aC tRs 1 (.slice qa (i+1) qc) (i+1) (hs ++ [.slice ra (eQ O i).length rc])::orP D2 o O::blk bs e.cells.toArray tSt :: []):=(ue.out.front 1 rfl).drop
     refine⟨i+1,qa,qc,hs ++ [.slice ra (eQ O i).length rc],D2,rfl,by go_num,by omega,tG.out.trans tL.out,by rw [List.length_append,uW.out];rfl,fun k h hh=>?_,hfin⟩
     by_cases hk:k<i
     ·rw [List.getElem?_append_left (by rw [uW.out];exact hk)]at hh
      exact(xM.out k h hh).mono tL.out
     ·have hk2:k=i:=by have:=(List.getElem?_eq_some_iff.1 hh).1;rw [List.length_append,uW.out,List.length_singleton]at this;omega
      subst hk2
      rw [List.getElem?_append_right (by rw [uW.out];exact Nat.le_refl _),uW.out,Nat.sub_self]at hh
      cases hh
      exact xg.out
    case measure=>simp [intOf];omega
   ·obtain rfl:i=N:=by omega
    have hii:¬((i:Int)<(i:Int)):=by omega
    have vi:=BO (fy (aA (tF.out.blk 2 rfl)))
    obtain⟨is,zs,his,hzs,hss⟩:=infoStm
    have uR:=BO (And.intro his (And.intro hzs hss))
    clear his hzs hss
    have hs6:=((tF.out.perm ((List.Perm.swap _ _ _))).own_fresh (e:=tSt) (size:=20) (n:=1) (cap:=1) (cs:=e.cells.toArray) (xs:=e.cells) (Nat.le_refl _) (by unfold maxLen;omega) (Nat.le_refl 20) rfl e.one)
    obtain⟨D2,le2,r2,hs7⟩:=hs6.own_give
    have hst:StmL D2 (.slice (some ⟨wr.heap.size,0,none⟩) 1 1) [s]:=⟨[e],.cons (tH.out.mono (tJ.out.trans (tG.out.trans le2))) .nil,by rw [List.flatMap_singleton];exact r2⟩
    have xO:=BO (oN (lev:=0) hst (fun q hq=>by obtain rfl:=List.mem_singleton.1 hq;have:=wT.out.2.2;omega) yH.out (by have:=xA.out.2.1;simp;omega) (iP le2 hs7))
    have uz:=BO le2
    clear hs6 le2 r2 hs7 hst
    go_wp2_with (first|(refine bE rfl _ _ rfl _ _ rfl _ vi.out ?_)|(refine dw rfl _ _ rfl tSt is zs e.cells rfl Tryz.underlying49 uR.out.1 uR.out.2.1 (uR.out.2.2.trans rfl) (by rw [StmE.len];decide) (by rw [StmE.len];decide) ?_))
    refine xO.out.mono ?_
    rintro e8 w8 ⟨aa,ac,D3,rfl,hle3,hans,hs8⟩
    have hl1:(O.run [s]).2.length=1:=rfl
    rw [hl1]at hans ⊢
    have hst:(O.run [s]).2 = [(cJ (bX O.cols O.tabs) s).2]:=rfl
    rw [hst]at hans
    obtain⟨P',hP'⟩:∃P',(O.run [s]).1=P':=⟨_,rfl⟩
    have hoi2:=yH.out.run [s] (by intro q hq;obtain rfl:=List.mem_singleton.1 hq;exact⟨tH.out.row.2,tH.out.sets.2⟩) (by have:=xA.out.2.1;simp;omega)
    have herr:ErrI O.tabs s.kind (cJ (bX O.cols O.tabs) s):=rZ O.cols O.tabs s
    have htab:P'.tabs=(cJ (bX O.cols O.tabs) s).1.tabs:=by rw [←hP'];rfl
    rw [hP']at hs8 hoi2
    obtain⟨A,hA⟩:∃A,(cJ (bX O.cols O.tabs) s).2=A:=⟨_,rfl⟩
    unfold ErrI at herr
    rw [←htab,hA]at herr
    rw [hA]at hans
    obtain⟨as_,hall,hrd⟩:=hans
    obtain _|⟨h1,hall⟩:=hall
    cases hall
    rename_i a1
    have AD:=BO herr
    have xi:=BO h1
    have uE:=BO hs8
    have BH:=BO hoi2
    have tM:=BO hle3
    have hg0:∃g og,aa=some ⟨g,og,none⟩:=by
     obtain⟨g,og,hg,_⟩:=bS AnsE.len (hrd.rd hs8) (show [a1][0]?=some a1 from rfl) rfl
     exact⟨g,og,hg⟩
    obtain⟨ag,aog,rfl⟩:=hg0
    have hac:∀(D':PH) (W:World) (L:List HP),PH.le D3 D'→Sat w D' W L→W.cell? ⟨ag,aog,none⟩=some (.int .i64 a1.e)∧W.cell? ⟨ag,aog+1,none⟩=some (.slice a1.ra a1.rn a1.rc)∧W.cell? ⟨ag,aog+2,none⟩=some (.int .i64 a1.n):=fun D' W L le hs=>by
     obtain⟨g,og,hg,hr⟩:=bS AnsE.len ((hrd.mono le).rd hs) (show [a1][0]?=some a1 from rfl) rfl
     cases hg
     exact⟨hr 0 _ rfl,hr 1 _ rfl,hr 2 _ rfl⟩
    have BI:=BO hac
    obtain⟨x0,x2,x3,x4,x5,x6,x7,x17,x18,x19⟩:=bK (hs8.blk 2 rfl)
    rw [tH.out.kind]at x0
    clear hl1 hst hoi2 herr htab h1 hs8 hle3 hrd hac hA hP' xO tF vi x2 x3 x4 x5 x6 x7 x17 x18 x19
    go_upto_region 19 with fail
    obtain⟨wk,hwk⟩:∃wk,fF s.kind=wk:=⟨_,rfl⟩
    have A6:=BO hwk
    clear hwk
    go_cut [14] (fun dv wx=>dv = .bool wk∧wx=w8)
    case first =>
     go_wp2_with fail
     all_goals
      go_meet
      refine⟨?_,rfl⟩
      rw [←A6.out]
      unfold fF
      first|rfl|(rename_i h;rw [h];rfl)|(rename_i h1 h2 h3 h4;rw [decide_eq_false h1,decide_eq_false h2,decide_eq_false h3,decide_eq_false h4];rfl)
    case rest =>
     obtain⟨rfl,rfl⟩:=hcut
     clear x0
     go_wp2_with fail
     obtain⟨D4,le4,hwas,hs9⟩:=(uE.out.front 1 rfl).own_give
     have wn:=BO hwas
     have u8:=BO (tM.out.trans le4)
     have xx:=BO le4
     have uK:=BO (iP le4 hs9)
     clear le4 hwas hs9 uE tM
     go_loopw [15,16] (fun bv iv wr=>∃(b:Bool) (k:Nat) (D5:PH),bv = .bool b∧iv = .int .i64 k∧k≤i∧PH.le D4 D5∧(P'.tabs=O.tabs→b=true)∧Sat w D5 wr (orP D5 o P'::blk bs e.cells.toArray tSt :: [])) (fun _ iv _=>i-(intOf iv).toNat)
     case atStart=>exact⟨true,0,D4,rfl,rfl,Nat.zero_le _,PH.le.refl _,fun _=>rfl,uK.out⟩
     case round =>
      obtain⟨b,k,D5,rfl,rfl,hk,hle5,hsame,hsat⟩:=hrel
      have uQ:=BO hle5
      have yx:=BO hsame
      have tF:=BO hsat
      clear hle5 hsame hsat uK
      by_cases hlt:k<i
      ·have hki:(k:Int)<(i:Int):=by omega
       obtain⟨h,hh⟩:∃h,hs[k]?=some h:=⟨hs[k]'(by rw [uW.out];exact hlt),List.getElem?_eq_getElem _⟩
       have yE:=BO (((xM.out k h hh).mono uz.out).mono (u8.out.trans uQ.out))
       have tk:=BO (show Rd wr 1 (.slice sa0 i sc0) i hs from(wn.out.mono uQ.out).rd tF.out)
       have A7:=BO hh
       clear hh
       go_upto_region 24 with fail
       cases b with
       | true =>
        have ut:=BO (mO (k:Int) BH.out tF.out.drew)
        obtain⟨wg,wog,hwa,hwc⟩:=cell1 tk.out A7.out hlt
        have BJ:=BO (show ∀(D':PH) (W:World) (L:List HP),PH.le D5 D'→Sat w D' W L→W.cell? ⟨wg,wog+k,none⟩=some h from fun D' W L le hs=>by
         obtain⟨g,og,hg,hc⟩:=cell1 ((wn.out.mono (uQ.out.trans le)).rd hs) A7.out hlt
         rw [hwa]at hg
         cases hg
         exact hc)
        subst hwa
        obtain⟨sa,sn,sc,rfl⟩:∃a n c,h = .slice a n c:=by obtain⟨ao,cap,e,_⟩:=(yE.out.1.rd tF.out).shape;exact⟨ao,_,cap,e⟩
        refine af [(0,false,4),(1,false,4),(2,false,4),(3,false,4),(5,false,9),(6,false,9),(7,false,9),(8,false,9),(4,true,0),(9,true,0),(10,false,999),(11,false,999)] (by kernel_rfl) (by kernel_rfl) ?_
        iterate 2 (refine ae rfl rfl (fun K hK=>?_);go_simp;refine hK _ ?_;clear hK K)
        iterate 6 (first|(refine ar rfl rfl ?_;simp only [Act.put,BP,BQ,BR,BS,BT,BU])|(refine al rfl rfl (fun K hK=>?_);go_simp;refine hK _ ?_;clear hK K))
        refine ah rfl ?_
        refine aq rfl (fun K hK=>?_)
        go_simp
        refine ut.out.mono ?_
        rintro e6 w6 ⟨ra,rc,D6,rfl,hle6,hr6,hs6⟩
        have xz:=BO hle6
        have BK:=BO hr6
        have tq:=BO hs6
        have hwc:=BJ.out D6 w6 _ hle6 hs6
        clear hle6 hr6 hs6 ut tF
        refine hK _ _ ?_
        clear hK K
        refine wpList_nil ?_
        refine And.intro ?_ ?_
        ·go_simp
        refine ah rfl ?_
        refine aq rfl (fun K hK=>?_)
        go_simp
        refine(si (BK.out.1.rd tq.out) ((yE.out.mono xz.out).1.rd tq.out)).mono ?_
        rintro e7 w7 ⟨rfl,hk7⟩
        have ue:=BO (tq.out.kept hk7)
        clear hk7 hwc tq
        refine hK _ _ ?_
        clear hK K
        refine wpList_nil ?_
        refine And.intro ?_ ?_
        ·go_simp
        iterate 2 (refine ae rfl rfl (fun K hK=>?_);go_simp;refine hK _ ?_;clear hK K)
        refine ai ?_
        go_wp2_with fail
        go_roundw
        case rel=>exact⟨_,k+1,D6,rfl,by go_num,by omega,uQ.out.trans xz.out,fun h=>decide_eq_true (by unfold eQ;rw [h]),ue.out⟩
        case measure=>simp [intOf];omega
       | false =>
        refine af [(0,false,4),(1,false,4),(2,false,4),(3,false,4),(5,false,9),(6,false,9),(7,false,9),(8,false,9),(4,true,0),(9,true,0),(10,false,999),(11,false,999)] (by kernel_rfl) (by kernel_rfl) ?_
        iterate 2 (refine ae rfl rfl (fun K hK=>?_);go_simp;refine hK _ ?_;clear hK K)
        iterate 6 (first|(refine ar rfl rfl ?_;simp only [Act.put,BP,BQ,BR,BS,BT,BU])|(refine al rfl rfl (fun K hK=>?_);go_simp;refine hK _ ?_;clear hK K))
        refine ah rfl ?_
        refine bJ rfl ?_
        simp only [Act.put,BP,BQ,BR]
        refine wpList_nil ?_
        refine And.intro ?_ ?_
        ·go_simp
        refine ah rfl ?_
        refine bJ rfl ?_
        simp only [Act.put,BP,BQ,BR]
        refine wpList_nil ?_
        refine And.intro ?_ ?_
        ·go_simp
        iterate 2 (refine ae rfl rfl (fun K hK=>?_);go_simp;refine hK _ ?_;clear hK K)
        refine ai ?_
        go_wp2_with fail
        go_roundw
        case rel=>exact⟨false,k+1,D5,rfl,by go_num,by omega,uQ.out,fun h=>absurd (yx.out h) (by decide),tF.out.drew⟩
        case measure=>simp [intOf];omega
      ·obtain rfl:k=i:=by omega
       have hki:¬((k:Int)<(k:Int)):=by omega
       obtain⟨c0,c1,c2⟩:=BI.out D5 wr _ (xx.out.trans uQ.out) tF.out
       have xB:=BO (tF.out.drop.drop.end_ (tJ.out.trans (tG.out.trans (uz.out.trans (u8.out.trans uQ.out)))))
       have hrn:=gw xi.out.2.1
       rw [xi.out.1]at c0
       rw [hrn]at c1
       rw [xi.out.2.2]at c2
       clear hrn tF
       by_cases hz:A.e=0
       ·rw [hz]at c0
        have hb:b=true∨(wk=true∧0<A.n):=by
         rcases AD.out.2 with h|⟨h1,_,h3⟩
         ·exact .inl (yx.out h)
         ·exact .inr ⟨by rw [←A6.out];exact h1,h3⟩
        rcases hb with rfl|⟨rfl,hn⟩
        ·clear hz
         go_wp2_with fail
         refine bodyPost_ret (results_tmp rfl _ _ _) rfl ?_
         exact⟨rfl,xB.out⟩
        ·clear hz
         cases b
         ·go_wp2_with fail
          refine bodyPost_ret (results_tmp rfl _ _ _) rfl ?_
          exact⟨rfl,xB.out⟩
         ·go_wp2_with fail
          refine bodyPost_ret (results_tmp rfl _ _ _) rfl ?_
          exact⟨rfl,xB.out⟩
       ·obtain⟨hr0,hn0⟩:=AD.out.1 hz
        rw [hr0]at c1
        rw [hn0]at c2
        obtain rfl:b=true:=by
         rcases AD.out.2 with h|⟨_,h1,_⟩
         ·exact yx.out h
         ·exact absurd h1 hz
        have hze:(A.e == 0)=false:=by simpa using hz
        go_wp2_with fail
        refine bodyPost_ret (results_tmp rfl _ _ _) rfl ?_
        exact⟨rfl,xB.out⟩
end Go.Proofs.YtdobimafhbfkhaaGreat
