/- Joined texts: An oracle behind transactions (behind). The document's answer: are rows the same (ratlineref02.Rows). Helpers of the oracle's laws: rows that are told of a table, an element of a slice, the form's word about statements. Arguments of the oracle's laws, opened: tables, rows of transactions. -/
import Derived.Test.YtdobimafhbfkhaaGreatOE50
import Derived.Test.YtdobimafhbfkhaaGreatOE35
import Derived.Deep.DeepCutAuto
set_option maxHeartbeats 64000000
namespace Go.Proofs.YtdobimafhbfkhaaGreat
open Go.ChangeShapes Go.WideShapes Go.ChangeAt Go.RowKit
set_option maxRecDepth 100000
set_option linter.unusedSimpArgs false
def kj (O:OrM)(ts:List (List StmM)):OrM:=ts.foldl (fun o ss=>(o.run ss).1) O
theorem qL (O:OrM)(ts:List (List StmM))(ss:List StmM):kj O (ts ++ [ss])=((kj O ts).run ss).1:=by unfold kj;rw [List.foldl_append];rfl
def FitT (ts:List (List StmM)):Prop:=∀ss∈ts,∀s∈ss,bO s.row∧∀q∈s.sets,q.v.fit
theorem TxnL.fits {D:PH}{v:Value}{ts:List (List StmM)}(h:TxnL D v ts):FitT ts:=fun ss hss s hs=>by
 obtain⟨es,h1,_⟩:=h
 obtain⟨i,hi⟩:=List.mem_iff_getElem?.1 hss
 have hlt:i<es.length:=by rw [h1.len];exact(List.getElem?_eq_some_iff.1 hi).1
 obtain⟨ss',hs',xs,hx,_⟩:=h1.get (List.getElem?_eq_getElem hlt)
 rw [hi]at hs'
 cases hs'
 obtain⟨k,hk⟩:=List.mem_iff_getElem?.1 hs
 have hlt2:k<xs.length:=by rw [hx.len];exact(List.getElem?_eq_some_iff.1 hk).1
 obtain⟨s',hs',hok⟩:=hx.get (List.getElem?_eq_getElem hlt2)
 rw [hk]at hs'
 cases hs'
 exact⟨hok.row.2,hok.sets.2⟩
theorem OrI.runs {O:OrM}:∀(ts:List (List StmM)) {n:Nat},OrI n O→FitT ts→n+gU ts≤150→OrI (n+gU ts) (kj O ts)
 | [],n,h,_,_=>h
 | ss::ts,n,h,hf,hn=>by
  have e:gU (ss::ts)=ss.length+gU ts:=by unfold gU;simp
  rw [e]at hn ⊢
  have h1:=h.run ss (hf ss (List.mem_cons_self ..)) (by omega)
  have h2:=OrI.runs ts h1 (fun q hq=>hf q (List.mem_cons_of_mem _ hq)) (by omega)
  rw [←Nat.add_assoc]
  exact h2
theorem pT (cols:List (List Bool)):OrI 0 (eR cols):=by
 refine⟨⟨by show(List.replicate cols.length ([]:av)).length=cols.length;rw [List.length_replicate],fun i c m hc hm=>?_⟩,fun i m hm=>?_⟩
 ·have:(List.replicate cols.length ([]:av))[i]?=some m:=hm
  rw [List.getElem?_replicate]at this
  split at this
  ·cases this;exact⟨TabI.nil c,Nat.zero_le _⟩
  ·cases this
 ·have:(List.replicate cols.length ([]:av))[i]?=some m:=hm
  rw [List.getElem?_replicate]at this
  split at this
  ·cases this;exact Nat.le_refl _
  ·cases this
def BehAns (B:World)(D:PH)(l:List HP)(cols:List (List Bool))(ts:List (List StmM))(e:Ending)(w':World):Prop:=∃D',PH.le D D'∧if gA cols then ∃o,e = .returned (.pointer (some ⟨o,0,none⟩))∧Sat B D' w' (orP D' o (kj (eR cols) ts)::l)else e = .returned (.pointer none)∧Sat B D' w' l
theorem qK {B w:World}{D:PH}{l:List HP}{v u:Value}{cols:List (List Bool)}{ts:List (List StmM)}(ht:TblsAt D v cols)(hx:TxnL D u ts)(hsm:rj ts)(h:Sat B D w l) :
  Calls Tryz.prog 22 #[v,u] w (BehAns B D l cols ts):=by
 obtain⟨ua,un,uc,rfl⟩:∃a n c,u = .slice a n c:=by obtain⟨es,_,h2⟩:=hx;obtain⟨a,c,h3⟩:=h2.shape;exact⟨a,_,c,h3⟩
 have hn:=hx.len
 subst hn
 have hfit:=hx.fits
 have vU:=BO hfit
 have tH:=BO hsm
 obtain⟨es,hes,hrd⟩:=hx
 have hel:=hes.len
 rw [hel]at hrd
 obtain⟨N,hN⟩:∃N,ts.length=N:=⟨_,rfl⟩
 rw [hN]at hrd hel ⊢
 have hN12:N≤12:=by have:=hsm.1;omega
 have HN:=BO hN
 have vF:=BO hes
 have v4:=BO hel
 have tu:=BO hrd
 have vb:=BO (rt ht h)
 clear hN hes hel hrd ht h hfit hsm
 go_enter Tryz.func22,Tryz.ntmps22
 go_wp2_with fail
 refine vb.out.mono ?_
 rintro e1 w1 ⟨D1,le1,hif⟩
 have tJ:=BO le1
 clear le1 vb
 cases hm:gA cols with
 | true =>
  rw [hm,if_pos rfl]at hif
  obtain⟨o,rfl,hs1⟩:=hif
  have tj:=BO hs1
  have HM:=BO hm
  clear hs1 hm
  go_wp2_with fail
  go_loopw [6] (fun iv wr=>∃(i:Nat) (D2:PH),iv = .int .i64 i∧i≤N∧PH.le D1 D2∧Sat B D2 wr (orP D2 o (kj (eR cols) (ts.take i))::l)) (fun iv _=>N-(intOf iv).toNat)
  case atStart=>exact⟨0,D1,rfl,Nat.zero_le _,PH.le.refl _,tj.out⟩
  case round =>
   obtain⟨i,D2,rfl,hi,hle,hs⟩:=hrel
   have tG:=BO hle
   have HS:=BO hs
   clear hle hs tj
   by_cases hlt:i<N
   ·have hii:(i:Int)<(N:Int):=by omega
    obtain⟨t,ht⟩:∃t,es[i]?=some t:=⟨es[i]'(by rw [v4.out];exact hlt),List.getElem?_eq_getElem _⟩
    obtain⟨ss,hss,hst⟩:=vF.out.get ht
    have hmem:=List.mem_of_getElem? hss
    have uZ:=BO (show ts.take (i+1)=ts.take i ++ [ss] by rw [List.take_add_one,hss];rfl)
    have hcnt:gU (ts.take i)+ss.length≤100:=by
     have h1:gU (ts.take (i+1))≤gU ts:=by
      unfold gU
      conv=>rhs;rw [←List.take_append_drop (i+1) ts,List.map_append,List.sum_append]
      omega
     rw [uZ.out,km]at h1
     have:=tH.out.2.1
     omega
    have hfi:FitT (ts.take i):=fun q hq=>vU.out q (List.mem_of_mem_take hq)
    have hoi:=OrI.runs (ts.take i) (pT cols) hfi (by omega)
    have xO:=BO (oN (lev:=t.lev) (hst.mono (tJ.out.trans tG.out)) (fun s hs=>by have:=(tH.out.2.2 ss hmem s hs).2.2;omega) hoi (by omega) HS.out)
    obtain⟨ug,uo,hua,hr⟩:=bS TxnE.len ((tu.out.mono (tJ.out.trans tG.out)).rd HS.out) ht v4.out
    subst hua
    have x0:=hr 0 _ rfl
    have x1:=hr 1 _ rfl
    rw [Nat.add_zero]at x0
    clear ht hss hst hmem hcnt hfi hoi hr
    go_wp2_with (go_at_call 17;refine xO.out.mono ?_;rintro e4 w4 ⟨ra,rc,D3,rfl,hle3,-,hs3⟩;have tp:=BO hs3;have tM:=BO (tG.out.trans hle3);clear hs3 hle3 xO HS x0 x1)
    go_roundw
    case rel=>exact⟨i+1,D3,by go_num,by omega,tM.out,by rw [uZ.out,qL];exact tp.out⟩
    case measure=>simp [intOf];omega
   ·obtain rfl:i=N:=by omega
    have hii:¬((i:Int)<(i:Int)):=by omega
    have hall:ts.take i=ts:=List.take_of_length_le (Nat.le_of_eq HN.out)
    rw [hall]at HS
    clear hall
    go_wp2_with fail
    refine bodyPost_ret (results_tmp rfl _ _ _) rfl ?_
    refine⟨D2,tJ.out.trans tG.out,?_⟩
    rw [HM.out]
    exact⟨o,rfl,HS.out⟩
 | false =>
  rw [hm,if_neg (by decide)]at hif
  obtain⟨rfl,hs1⟩:=hif
  have tj:=BO hs1
  have HM:=BO hm
  clear hs1 hm
  go_wp2_with fail
  go_loopw [6] (fun iv wr=>∃(i:Nat),iv = .int .i64 i∧i≤N∧Sat B D1 wr l) (fun iv _=>N-(intOf iv).toNat)
  case atStart=>exact⟨0,rfl,Nat.zero_le _,tj.out⟩
  case round =>
   obtain⟨i,rfl,hi,hs⟩:=hrel
   have HS:=BO hs
   clear hs tj
   by_cases hlt:i<N
   ·have hii:(i:Int)<(N:Int):=by omega
    obtain⟨t,ht⟩:∃t,es[i]?=some t:=⟨es[i]'(by rw [v4.out];exact hlt),List.getElem?_eq_getElem _⟩
    obtain⟨ug,uo,hua,hr⟩:=bS TxnE.len ((tu.out.mono tJ.out).rd HS.out) ht v4.out
    subst hua
    have x0:=hr 0 _ rfl
    have x1:=hr 1 _ rfl
    rw [Nat.add_zero]at x0
    clear ht hr
    go_wp2_with (go_at_call 17;refine(do_nil _ _).mono ?_;rintro e4 w4 ⟨rfl,hk4⟩;have tp:=BO (HS.out.kept hk4);clear hk4 HS x0 x1)
    go_roundw
    case rel=>exact⟨i+1,by go_num,by omega,tp.out⟩
    case measure=>simp [intOf];omega
   ·obtain rfl:i=N:=by omega
    have hii:¬((i:Int)<(i:Int)):=by omega
    go_wp2_with fail
    refine bodyPost_ret (results_tmp rfl _ _ _) rfl ?_
    refine⟨D1,tJ.out,?_⟩
    rw [HM.out]
    exact⟨rfl,HS.out⟩
theorem RowsRd.shape {w:World}{v:Value}{rs:List (List Val)}(h:RowsRd w v rs):∃ao cap,v = .slice ao rs.length cap∧rs.length≤maxLen:=by
 obtain⟨hs,_,⟨_,m,ao,cap,h,_⟩,_⟩:=h
 exact⟨ao,cap,h,m⟩
theorem RowsRd.at {w:World}{ao:Option Addr}{n cap i:Nat}{rs:List (List Val)}{r:List Val}(h:RowsRd w (.slice ao n cap) rs)(hr:rs[i]?=some r):∃g og o cp,ao=some ⟨g,og,none⟩∧w.cell? ⟨g,og+i,none⟩=some (.slice o r.length cp)∧ej w (.slice o r.length cp) r:=by
 obtain⟨hs,h1,h2,h3⟩:=h
 have hlt:=(List.getElem?_eq_some_iff.1 hr).1
 obtain⟨u,hu⟩:∃u,hs[i]?=some u:=⟨hs[i]'(by omega),List.getElem?_eq_getElem _⟩
 have h4:=h3 i u r hu hr
 obtain⟨_,_,ao2,cap2,rfl,_⟩:=id h4
 rcases h2.2.2 with ⟨_,_,hv,_,_,_,hcell⟩
 cases hv
 rcases hcell with h0|⟨g,o,hg,hcc⟩
 ·omega
 ·exact⟨g,o,ao2,cap2,hg,hcc i _ hu,h4⟩
theorem si {w:World}{v1 v2:Value}{l1 l2:List (List Val)}(h1:RowsRd w v1 l1)(h2:RowsRd w v2 l2) :
  Calls Tryz.prog 20 #[v1,v2] w fun e w'=>e = .returned (.bool (decide (l1=l2)))∧Kept (fun _=>False) w w':=by
 obtain⟨a1,c1,rfl,m1⟩:=h1.shape
 obtain⟨a2,c2,rfl,m2⟩:=h2.shape
 unfold maxLen at m1 m2
 have H1:=BO h1
 have H2:=BO h2
 clear h1 h2
 by_cases hlen:l1.length=l2.length
 ·rw [←hlen]at H2 m2 ⊢
  have uz:=BO hlen
  generalize hL:l1.length=N at *
  have xC:=BO hL
  clear hlen hL
  go_enter Tryz.func20,Tryz.ntmps20
  go_wp2_with fail
  go_loopw [5,6] (fun i _ wr=>∃k:Nat,i = .int .i64 k∧k≤N∧l1.take k=l2.take k∧Kept (fun _=>False) w wr) (fun i _ _=>N-(intOf i).toNat)
  case atStart=>exact⟨0,rfl,by omega,rfl,Kept.refl _ _⟩
  case round =>
   obtain⟨k,rfl,hk,ht,hkr⟩:=hrel
   have HT:=BO ht
   have HK:=BO hkr
   clear ht hkr
   by_cases hlt:k<N
   ·obtain⟨a,ha⟩:∃a,l1[k]?=some a:=⟨l1[k]'(by rw [xC.out];exact hlt),List.getElem?_eq_getElem _⟩
    obtain⟨b,hb⟩:∃b,l2[k]?=some b:=⟨l2[k]'(by rw [←uz.out];exact hlt),List.getElem?_eq_getElem _⟩
    obtain⟨g1,og1,o1,p1,rfl,x0,r1⟩:=(RowsRd.kept HK.out H1.out).at ha
    obtain⟨g2,og2,o2,p2,rfl,y0,r2⟩:=(RowsRd.kept HK.out H2.out).at hb
    have yE:=BO r1
    have xg:=BO r2
    have HA:=BO ha
    have HB:=BO hb
    have hkn:(k:Int)<(N:Int):=by omega
    clear ha hb r1 r2
    go_upto_region 6 with (fail)
    refine af [(0,false,8),(1,false,8),(2,false,8),(3,false,8),(4,false,8),(5,false,8),(6,false,8),(7,false,8),(8,true,0),(9,false,999)] (by kernel_rfl) (by kernel_rfl) ?_
    iterate 8 (refine ae rfl rfl (fun K hK=>?_);go_simp;refine hK _ ?_;clear hK K)
    refine ah rfl ?_
    refine aq rfl (fun K hK=>?_)
    go_simp
    refine(rB (w:=wr.drew) yE.out xg.out).mono ?_
    rintro e3 w3 ⟨rfl,n3,hn3⟩
    have v6:=BO (show Kept (fun _=>False) w w3 by rw [hn3];exact HK.out.drew.drewN _)
    clear hn3 x0 y0
    refine hK _ _ ?_
    clear hK K
    refine wpList_nil ?_
    refine And.intro ?_ ?_
    ·go_simp
    refine ae rfl rfl (fun K hK=>?_);go_simp;refine hK _ ?_;clear hK K
    refine ai ?_
    by_cases hab:a=b
    ·subst hab
     have BG:=BO (iL HT.out HA.out HB.out)
     have hd:decide (a=a)=true:=decide_eq_true rfl
     go_wp2_with fail
     go_roundw
     case rel=>exact⟨k+1,by go_num,by omega,BG.out,v6.out⟩
     case measure=>simp [intOf];omega
    ·have vT:=BO (show decide (l1=l2)=false from decide_eq_false (fun h=>by
      have h3:=HA.out
      rw [h,HB.out]at h3
      exact hab (Option.some.inj h3).symm))
     have hd:decide (a=b)=false:=decide_eq_false hab
     go_wp2_with fail
     go_ret
     rw [vT.out]
     exact⟨rfl,v6.out⟩
   ·have Aq:=BO (show decide (l1=l2)=true from decide_eq_true (jl HT.out (by rw [xC.out];omega) (by rw [←uz.out];omega)))
    go_wp2_with fail
    go_ret
    rw [Aq.out]
    exact⟨rfl,HK.out⟩
 ·have vT:=BO (show decide (l1=l2)=false from decide_eq_false (fun h=>hlen (by rw [h])))
  have hl':((l1.length:Int) == (l2.length:Int))=false:=by simp;omega
  clear hlen
  go_enter Tryz.func20,Tryz.ntmps20
  go_wp2_with fail
  go_ret
  rw [vT.out]
  exact⟨rfl,Kept.refl _ _⟩
theorem qo : (Tryz.prog.info? tRs).map (fun i=>(i.zero,i.size,i.bytes))=some (some (.slice none 0 0),1,24):=by kernel_rfl
theorem cell1 {w:World}{ao:Option Addr}{n cap k:Nat}{xs:List Value}{u:Value}(h:Rd w 1 (.slice ao n cap) n xs)(hu:xs[k]?=some u)(hk:k<n):∃g og,ao=some ⟨g,og,none⟩∧w.cell? ⟨g,og+k,none⟩=some u:=by
 rcases h.2.2 with ⟨_,_,hv,_,_,_,hcell⟩
 cases hv
 rcases hcell with h0|⟨g,o,hg,hcc⟩
 ·omega
 ·exact⟨g,o,hg,hcc k _ hu⟩
theorem infoStm : ∃i z,Tryz.prog.info? tSt=some i∧i.zero=some z∧i.size=20:=⟨_,_,rfl,rfl,rfl⟩
end Go.Proofs.YtdobimafhbfkhaaGreat
namespace Go.Proofs.YtdobimafhbfkhaaGreat
open Go.ChangeShapes Go.WideShapes Go.ChangeAt Go.RowKit Go.Deep
set_option maxRecDepth 100000
set_option linter.unusedSimpArgs false
section
variable {H : Type} {enc : TypeId × Value → H} {w : World} {base : Nat} {spare : Nat → Bool} {held : Bool}
theorem te : Tryz.prog.cellsOf 66=1:=by kernel_rfl
theorem qu {fuel:Nat}{cs:List Value}{x:DataW H×List MemPlace}(h:DataW.trod enc Tryz.prog w base spare held fuel 64 cs=some x):∃(v:Value) (r:List Bool),cs = [v]∧RdP (aF w) 1 v r.length (r.flatMap dq):=by
 obtain⟨v,r,hc,hrd,_⟩:=eJ (f:=dq) (G:=fun _:Bool=>True) Tryz.underlying64 mP (by omega) blen (fun m hm cs d hd=>by obtain⟨b,hb,_⟩:=DataW.trod_bool Tryz.underlying4 hd;exact⟨b,hb,trivial⟩) h
 exact⟨v,r,hc,RdP.of_rd hrd (by omega)⟩
theorem qb {fuel:Nat}{cs:List Value}{x:DataW H×List MemPlace}(h:DataW.trod enc Tryz.prog w base spare held fuel 66 cs=some x):∃a:Value×List Bool,cs = [a.1]∧RdP (aF w) 1 a.1 a.2.length (a.2.flatMap dq):=by
 obtain⟨xs,n,hn,rfl,hl,hlen,hf⟩:=DataW.trod_struct Tryz.underlying66 h
 rw [te]at hl
 match xs,hlen with
 | [y0],_ =>
  have t0:=hf 0 _ rfl
  match cs,hl with
  | [c0],_ =>
   obtain⟨v,r,hc,hr⟩:=qu (x:=y0) (cs:=[c0]) (by
    have h9:[y0][0]?=some y0:=rfl
    rw [h9]at t0
    exact t0)
   exact⟨(v,r),hc,hr⟩
theorem pr {fuel:Nat}{cs:List Value}{x:DataW H×List MemPlace}(h:DataW.trod enc Tryz.prog w base spare held fuel 22 cs=some x):∃(v:Value) (ts:List (List Bool)),cs = [v]∧TblsAt (aF w) v ts:=by
 obtain⟨v,l,rfl,hrd,hx⟩:=eJ (f:=fun a:Value×List Bool=>[a.1]) (G:=fun a:Value×List Bool=>RdP (aF w) 1 a.1 a.2.length (a.2.flatMap dq)) Tryz.underlying22 te (by omega) (fun _=>rfl) (fun m hm cs d hd=>qb hd) h
 have hfl:l.flatMap (fun a:Value×List Bool=>[a.1])=l.map Prod.fst:=by
  clear hrd hx
  induction l with
  | nil=>rfl
  | cons a l ih=>rw [List.flatMap_cons,ih];rfl
 rw [hfl]at hrd
 refine⟨v,l.map Prod.snd,rfl,l.map Prod.fst,by simp,fun u hu=>?_,by simpa using RdP.of_rd hrd (by omega),fun i u r hu hr=>?_⟩
 ·obtain⟨a,ha,rfl⟩:=List.mem_map.1 hu
  exact(hx a ha).oneV
 ·rw [List.getElem?_map]at hu hr
  cases hl:l[i]? with
  | none=>rw [hl]at hu;cases hu
  | some a =>
   rw [hl]at hu hr
   obtain rfl:=Option.some.inj hu
   obtain rfl:=Option.some.inj hr
   exact hx a (List.mem_of_getElem? hl)
theorem sN {fuel:Nat}{cs:List Value}{x:DataW H×List MemPlace}(h:DataW.trod enc Tryz.prog w base spare held fuel 38 cs=some x):∃(v:Value) (l:List (List StmM)),cs = [v]∧TxnL (aF w) v l:=by
 obtain⟨v,r,hc,hrd,hf⟩:=eJ (f:=TxnE.cells) (G:=fun t:TxnE=>∃ss:List StmM,StmL (aF w) (.slice t.sa t.sn t.sc) ss) Tryz.underlying38 cO_tx (by omega) TxnE.len (fun m hm cs d hd=>opO_txn hd) h
 obtain⟨ss,hss⟩:=mX r hf
 exact⟨v,ss,hc,r,hss,RdP.of_rd hrd (by omega)⟩
end
end Go.Proofs.YtdobimafhbfkhaaGreat
