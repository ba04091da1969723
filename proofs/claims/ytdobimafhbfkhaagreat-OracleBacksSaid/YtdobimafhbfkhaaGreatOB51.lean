/- Joined texts: An oracle behind transactions (behind). The document's answer: are rows the same (ratlineref02.Rows). Helpers of the oracle's laws: rows that are told of a table, an element of a slice, the form's word about statements. Arguments of the oracle's laws, opened: tables, rows of transactions. -/
import Derived.Test.YtdobimafhbfkhaaGreatOB50
import Derived.Test.YtdobimafhbfkhaaGreatOB35
import Derived.Deep.DeepCutAuto
set_option maxHeartbeats 64000000
namespace Go.Proofs.YtdobimafhbfkhaaGreat
open Go.ChangeShapes Go.WideShapes Go.ChangeAt Go.RowKit
set_option maxRecDepth 100000
set_option linter.unusedSimpArgs false
def ju (O:OrM)(ts:List (List StmM)):OrM:=ts.foldl (fun o ss=>(o.run ss).1) O
theorem rh (O:OrM)(ts:List (List StmM))(ss:List StmM):ju O (ts ++ [ss])=((ju O ts).run ss).1:=by unfold ju;rw [List.foldl_append];rfl
def FitT (ts:List (List StmM)):Prop:=∀ss∈ts,∀s∈ss,bD s.row∧∀q∈s.sets,q.v.fit
theorem TxnL.fits {D:PH}{v:Value}{ts:List (List StmM)}(h:TxnL D v ts):FitT ts:=fun ss hss s hs=>by
 obtain⟨es,h1,_⟩:=h
 obtain⟨i,hi⟩:=List.mem_iff_getElem?.1 hss
 have hlt:i<es.length:=by rw [h1.len];exact(List.getElem?_eq_some_iff.1 hi).1
 obtain⟨ss',hs',xs,hx,_⟩:=h1.get (List.getElem?_eq_getElem hlt)
 rw [hi]at hs'
 cases hs'
 obtain⟨k,hk⟩:=List.mem_iff_getElem?.1 hs
 have hlt2:k<xs.length:=by rw [hx.len];exact(List.getElem?_eq_some_iff.1 hk).1
 obtain⟨s',hs',hok⟩:=hx.get (List.getElem?_eq_getElem hlt2)
 rw [hk]at hs'
 cases hs'
 exact⟨hok.row.2,hok.sets.2⟩
theorem OrI.runs {O:OrM}:∀(ts:List (List StmM)) {n:Nat},OrI n O→FitT ts→n+fd ts≤150→OrI (n+fd ts) (ju O ts)
 | [],n,h,_,_=>h
 | ss::ts,n,h,hf,hn=>by
  have e:fd (ss::ts)=ss.length+fd ts:=by unfold fd;simp
  rw [e]at hn ⊢
  have h1:=h.run ss (hf ss (List.mem_cons_self ..)) (by omega)
  have h2:=OrI.runs ts h1 (fun q hq=>hf q (List.mem_cons_of_mem _ hq)) (by omega)
  rw [←Nat.add_assoc]
  exact h2
theorem p9 (cols:List (List Bool)):OrI 0 (eS cols):=by
 refine⟨⟨by show(List.replicate cols.length ([]:ar)).length=cols.length;rw [List.length_replicate],fun i c m hc hm=>?_⟩,fun i m hm=>?_⟩
 ·have:(List.replicate cols.length ([]:ar))[i]?=some m:=hm
  rw [List.getElem?_replicate]at this
  split at this
  ·cases this;exact⟨TabI.nil c,Nat.zero_le _⟩
  ·cases this
 ·have:(List.replicate cols.length ([]:ar))[i]?=some m:=hm
  rw [List.getElem?_replicate]at this
  split at this
  ·cases this;exact Nat.le_refl _
  ·cases this
def BehAns (B:World)(D:PH)(l:List HP)(cols:List (List Bool))(ts:List (List StmM))(e:Ending)(w':World):Prop:=∃D',PH.le D D'∧if ff cols then ∃o,e = .returned (.pointer (some ⟨o,0,none⟩))∧Sat B D' w' (orP D' o (ju (eS cols) ts)::l)else e = .returned (.pointer none)∧Sat B D' w' l
theorem lI {B w:World}{D:PH}{l:List HP}{v u:Value}{cols:List (List Bool)}{ts:List (List StmM)}(ht:TblsAt D v cols)(hx:TxnL D u ts)(hsm:oY ts)(h:Sat B D w l) :
  Calls Tryz.prog 22 #[v,u] w (BehAns B D l cols ts):=by
 obtain⟨ua,un,uc,rfl⟩:∃a n c,u = .slice a n c:=by obtain⟨es,_,h2⟩:=hx;obtain⟨a,c,h3⟩:=h2.shape;exact⟨a,_,c,h3⟩
 have hn:=hx.len
 subst hn
 have hfit:=hx.fits
 have wj:=B5 hfit
 have ui:=B5 hsm
 obtain⟨es,hes,hrd⟩:=hx
 have hel:=hes.len
 rw [hel]at hrd
 obtain⟨N,hN⟩:∃N,ts.length=N:=⟨_,rfl⟩
 rw [hN]at hrd hel ⊢
 have hN12:N≤12:=by have:=hsm.1;omega
 have HN:=B5 hN
 have vR:=B5 hes
 have wo:=B5 hel
 have tM:=B5 hrd
 have vr:=B5 (sN ht h)
 clear hN hes hel hrd ht h hfit hsm
 go_enter Tryz.func22,Tryz.ntmps22
 go_wp2_with fail
 refine vr.out.mono ?_
 rintro e1 w1 ⟨D1,le1,hif⟩
 have uf:=B5 le1
 clear le1 vr
 cases hm:ff cols with
 | true =>
  rw [hm,if_pos rfl]at hif
  obtain⟨o,rfl,hs1⟩:=hif
  have tD:=B5 hs1
  have HM:=B5 hm
  clear hs1 hm
  go_wp2_with fail
  go_loopw [6] (fun iv wr=>∃(i:Nat) (D2:PH),iv = .int .i64 i∧i≤N∧PH.le D1 D2∧Sat B D2 wr (orP D2 o (ju (eS cols) (ts.take i))::l)) (fun iv _=>N-(intOf iv).toNat)
  case atStart=>exact⟨0,D1,rfl,Nat.zero_le _,PH.le.refl _,tD.out⟩
  case round =>
   obtain⟨i,D2,rfl,hi,hle,hs⟩:=hrel
   have ub:=B5 hle
   have HS:=B5 hs
   clear hle hs tD
   by_cases hlt:i<N
   ·have hii:(i:Int)<(N:Int):=by omega
    obtain⟨t,ht⟩:∃t,es[i]?=some t:=⟨es[i]'(by rw [wo.out];exact hlt),List.getElem?_eq_getElem _⟩
    obtain⟨ss,hss,hst⟩:=vR.out.get ht
    have hmem:=List.mem_of_getElem? hss
    have vb:=B5 (show ts.take (i+1)=ts.take i ++ [ss] by rw [List.take_add_one,hss];rfl)
    have hcnt:fd (ts.take i)+ss.length≤100:=by
     have h1:fd (ts.take (i+1))≤fd ts:=by
      unfold fd
      conv=>rhs;rw [←List.take_append_drop (i+1) ts,List.map_append,List.sum_append]
      omega
     rw [vb.out,lm]at h1
     have:=ui.out.2.1
     omega
    have hfi:FitT (ts.take i):=fun q hq=>wj.out q (List.mem_of_mem_take hq)
    have hoi:=OrI.runs (ts.take i) (p9 cols) hfi (by omega)
    have xx:=B5 (pz (lev:=t.lev) (hst.mono (uf.out.trans ub.out)) (fun s hs=>by have:=(ui.out.2.2 ss hmem s hs).2.2;omega) hoi (by omega) HS.out)
    obtain⟨ug,uo,hua,hr⟩:=bJ TxnE.len ((tM.out.mono (uf.out.trans ub.out)).rd HS.out) ht wo.out
    subst hua
    have x0:=hr 0 _ rfl
    have x1:=hr 1 _ rfl
    rw [Nat.add_zero]at x0
    clear ht hss hst hmem hcnt hfi hoi hr
    go_wp2_with (go_at_call 17;refine xx.out.mono ?_;rintro e4 w4 ⟨ra,rc,D3,rfl,hle3,-,hs3⟩;have tH:=B5 hs3;have ur:=B5 (ub.out.trans hle3);clear hs3 hle3 xx HS x0 x1)
    go_roundw
    case rel=>exact⟨i+1,D3,by go_num,by omega,ur.out,by rw [vb.out,rh];exact tH.out⟩
    case measure=>simp [intOf];omega
   ·obtain rfl:i=N:=by omega
    have hii:¬((i:Int)<(i:Int)):=by omega
    have hall:ts.take i=ts:=List.take_of_length_le (Nat.le_of_eq HN.out)
    rw [hall]at HS
    clear hall
    go_wp2_with fail
    refine bodyPost_ret (results_tmp rfl _ _ _) rfl ?_
    refine⟨D2,uf.out.trans ub.out,?_⟩
    rw [HM.out]
    exact⟨o,rfl,HS.out⟩
 | false =>
  rw [hm,if_neg (by decide)]at hif
  obtain⟨rfl,hs1⟩:=hif
  have tD:=B5 hs1
  have HM:=B5 hm
  clear hs1 hm
  go_wp2_with fail
  go_loopw [6] (fun iv wr=>∃(i:Nat),iv = .int .i64 i∧i≤N∧Sat B D1 wr l) (fun iv _=>N-(intOf iv).toNat)
  case atStart=>exact⟨0,rfl,Nat.zero_le _,tD.out⟩
  case round =>
   obtain⟨i,rfl,hi,hs⟩:=hrel
   have HS:=B5 hs
   clear hs tD
   by_cases hlt:i<N
   ·have hii:(i:Int)<(N:Int):=by omega
    obtain⟨t,ht⟩:∃t,es[i]?=some t:=⟨es[i]'(by rw [wo.out];exact hlt),List.getElem?_eq_getElem _⟩
    obtain⟨ug,uo,hua,hr⟩:=bJ TxnE.len ((tM.out.mono uf.out).rd HS.out) ht wo.out
    subst hua
    have x0:=hr 0 _ rfl
    have x1:=hr 1 _ rfl
    rw [Nat.add_zero]at x0
    clear ht hr
    go_wp2_with (go_at_call 17;refine(do_nil _ _).mono ?_;rintro e4 w4 ⟨rfl,hk4⟩;have tH:=B5 (HS.out.kept hk4);clear hk4 HS x0 x1)
    go_roundw
    case rel=>exact⟨i+1,by go_num,by omega,tH.out⟩
    case measure=>simp [intOf];omega
   ·obtain rfl:i=N:=by omega
    have hii:¬((i:Int)<(i:Int)):=by omega
    go_wp2_with fail
    refine bodyPost_ret (results_tmp rfl _ _ _) rfl ?_
    refine⟨D1,uf.out,?_⟩
    rw [HM.out]
    exact⟨rfl,HS.out⟩
theorem RowsRd.shape {w:World}{v:Value}{rs:List (List Val)}(h:RowsRd w v rs):∃ao cap,v = .slice ao rs.length cap∧rs.length≤maxLen:=by
 obtain⟨hs,_,⟨_,m,ao,cap,h,_⟩,_⟩:=h
 exact⟨ao,cap,h,m⟩
theorem RowsRd.at {w:World}{ao:Option Addr}{n cap i:Nat}{rs:List (List Val)}{r:List Val}(h:RowsRd w (.slice ao n cap) rs)(hr:rs[i]?=some r):∃g og o cp,ao=some ⟨g,og,none⟩∧w.cell? ⟨g,og+i,none⟩=some (.slice o r.length cp)∧er w (.slice o r.length cp) r:=by
 obtain⟨hs,h1,h2,h3⟩:=h
 have hlt:=(List.getElem?_eq_some_iff.1 hr).1
 obtain⟨u,hu⟩:∃u,hs[i]?=some u:=⟨hs[i]'(by omega),List.getElem?_eq_getElem _⟩
 have h4:=h3 i u r hu hr
 obtain⟨_,_,ao2,cap2,rfl,_⟩:=id h4
 rcases h2.2.2 with ⟨_,_,hv,_,_,_,hcell⟩
 cases hv
 rcases hcell with h0|⟨g,o,hg,hcc⟩
 ·omega
 ·exact⟨g,o,ao2,cap2,hg,hcc i _ hu,h4⟩
theorem sV {w:World}{v1 v2:Value}{l1 l2:List (List Val)}(h1:RowsRd w v1 l1)(h2:RowsRd w v2 l2) :
  Calls Tryz.prog 20 #[v1,v2] w fun e w'=>e = .returned (.bool (decide (l1=l2)))∧Kept (fun _=>False) w w':=by
 obtain⟨a1,c1,rfl,m1⟩:=h1.shape
 obtain⟨a2,c2,rfl,m2⟩:=h2.shape
 unfold maxLen at m1 m2
 have H1:=B5 h1
 have H2:=B5 h2
 clear h1 h2
 by_cases hlen:l1.length=l2.length
 ·rw [←hlen]at H2 m2 ⊢
  have uJ:=B5 hlen
  generalize hL:l1.length=N at *
  have xO:=B5 hL
  clear hlen hL
  go_enter Tryz.func20,Tryz.ntmps20
  go_wp2_with fail
  go_loopw [5,6] (fun i _ wr=>∃k:Nat,i = .int .i64 k∧k≤N∧l1.take k=l2.take k∧Kept (fun _=>False) w wr) (fun i _ _=>N-(intOf i).toNat)
  case atStart=>exact⟨0,rfl,by omega,rfl,Kept.refl _ _⟩
  case round =>
   obtain⟨k,rfl,hk,ht,hkr⟩:=hrel
   have HT:=B5 ht
   have HK:=B5 hkr
   clear ht hkr
   by_cases hlt:k<N
   ·obtain⟨a,ha⟩:∃a,l1[k]?=some a:=⟨l1[k]'(by rw [xO.out];exact hlt),List.getElem?_eq_getElem _⟩
    obtain⟨b,hb⟩:∃b,l2[k]?=some b:=⟨l2[k]'(by rw [←uJ.out];exact hlt),List.getElem?_eq_getElem _⟩
    obtain⟨g1,og1,o1,p1,rfl,x0,r1⟩:=(RowsRd.kept HK.out H1.out).at ha
    obtain⟨g2,og2,o2,p2,rfl,y0,r2⟩:=(RowsRd.kept HK.out H2.out).at hb
    have yS:=B5 r1
    have xB:=B5 r2
    have HA:=B5 ha
    have HB:=B5 hb
    have hkn:(k:Int)<(N:Int):=by omega
    clear ha hb r1 r2
    go_upto_region 6 with (fail)
    refine af [(0,false,8),(1,false,8),(2,false,8),(3,false,8),(4,false,8),(5,false,8),(6,false,8),(7,false,8),(8,true,0),(9,false,999)] (by kernel_rfl) (by kernel_rfl) ?_
    iterate 8 (refine ae rfl rfl (fun K hK=>?_);go_simp;refine hK _ ?_;clear hK K)
    refine ah rfl ?_
    refine aq rfl (fun K hK=>?_)
    go_simp
    refine(sH (w:=wr.drew) yS.out xB.out).mono ?_
    rintro e3 w3 ⟨rfl,n3,hn3⟩
    have wt:=B5 (show Kept (fun _=>False) w w3 by rw [hn3];exact HK.out.drew.drewN _)
    clear hn3 x0 y0
    refine hK _ _ ?_
    clear hK K
    refine wpList_nil ?_
    refine And.intro ?_ ?_
    ·go_simp
    refine ae rfl rfl (fun K hK=>?_);go_simp;refine hK _ ?_;clear hK K
    refine ai ?_
    by_cases hab:a=b
    ·subst hab
     have BZ:=B5 (iV HT.out HA.out HB.out)
     have hd:decide (a=a)=true:=decide_eq_true rfl
     go_wp2_with fail
     go_roundw
     case rel=>exact⟨k+1,by go_num,by omega,BZ.out,wt.out⟩
     case measure=>simp [intOf];omega
    ·have wi:=B5 (show decide (l1=l2)=false from decide_eq_false (fun h=>by
      have h3:=HA.out
      rw [h,HB.out]at h3
      exact hab (Option.some.inj h3).symm))
     have hd:decide (a=b)=false:=decide_eq_false hab
     go_wp2_with fail
     go_ret
     rw [wi.out]
     exact⟨rfl,wt.out⟩
   ·have AJ:=B5 (show decide (l1=l2)=true from decide_eq_true (jD HT.out (by rw [xO.out];omega) (by rw [←uJ.out];omega)))
    go_wp2_with fail
    go_ret
    rw [AJ.out]
    exact⟨rfl,HK.out⟩
 ·have wi:=B5 (show decide (l1=l2)=false from decide_eq_false (fun h=>hlen (by rw [h])))
  have hl':((l1.length:Int) == (l2.length:Int))=false:=by simp;omega
  clear hlen
  go_enter Tryz.func20,Tryz.ntmps20
  go_wp2_with fail
  go_ret
  rw [wi.out]
  exact⟨rfl,Kept.refl _ _⟩
theorem qC : (Tryz.prog.info? tRs).map (fun i=>(i.zero,i.size,i.bytes))=some (some (.slice none 0 0),1,24):=by kernel_rfl
theorem cell1 {w:World}{ao:Option Addr}{n cap k:Nat}{xs:List Value}{u:Value}(h:Rd w 1 (.slice ao n cap) n xs)(hu:xs[k]?=some u)(hk:k<n):∃g og,ao=some ⟨g,og,none⟩∧w.cell? ⟨g,og+k,none⟩=some u:=by
 rcases h.2.2 with ⟨_,_,hv,_,_,_,hcell⟩
 cases hv
 rcases hcell with h0|⟨g,o,hg,hcc⟩
 ·omega
 ·exact⟨g,o,hg,hcc k _ hu⟩
abbrev tSts : TypeId:=49
theorem mL : (Tryz.prog.info? tSt).map (fun i=>(i.zero,i.size,i.bytes))=some (some (.agg stZ.cells.toArray),20,232):=by kernel_rfl
end Go.Proofs.YtdobimafhbfkhaaGreat
namespace Go.Proofs.YtdobimafhbfkhaaGreat
open Go.ChangeShapes Go.WideShapes Go.ChangeAt Go.RowKit Go.Deep
set_option maxRecDepth 100000
set_option linter.unusedSimpArgs false
section
variable {H : Type} {enc : TypeId × Value → H} {w : World} {base : Nat} {spare : Nat → Bool} {held : Bool}
theorem sX : Tryz.prog.cellsOf 66=1:=by kernel_rfl
theorem qA {fuel:Nat}{cs:List Value}{x:DataW H×List MemPlace}(h:DataW.trod enc Tryz.prog w base spare held fuel 64 cs=some x):∃(v:Value) (r:List Bool),cs = [v]∧RdP (aH w) 1 v r.length (r.flatMap dq):=by
 obtain⟨v,r,hc,hrd,_⟩:=eO (f:=dq) (G:=fun _:Bool=>True) Tryz.underlying64 m9 (by omega) blen (fun m hm cs d hd=>by obtain⟨b,hb,_⟩:=DataW.trod_bool Tryz.underlying4 hd;exact⟨b,hb,trivial⟩) h
 exact⟨v,r,hc,RdP.of_rd hrd (by omega)⟩
theorem qB {fuel:Nat}{cs:List Value}{x:DataW H×List MemPlace}(h:DataW.trod enc Tryz.prog w base spare held fuel 66 cs=some x):∃a:Value×List Bool,cs = [a.1]∧RdP (aH w) 1 a.1 a.2.length (a.2.flatMap dq):=by
 obtain⟨xs,n,hn,rfl,hl,hlen,hf⟩:=DataW.trod_struct Tryz.underlying66 h
 rw [sX]at hl
 match xs,hlen with
 | [y0],_ =>
  have t0:=hf 0 _ rfl
  match cs,hl with
  | [c0],_ =>
   obtain⟨v,r,hc,hr⟩:=qA (x:=y0) (cs:=[c0]) (by
    have h9:[y0][0]?=some y0:=rfl
    rw [h9]at t0
    exact t0)
   exact⟨(v,r),hc,hr⟩
theorem pB {fuel:Nat}{cs:List Value}{x:DataW H×List MemPlace}(h:DataW.trod enc Tryz.prog w base spare held fuel 22 cs=some x):∃(v:Value) (ts:List (List Bool)),cs = [v]∧TblsAt (aH w) v ts:=by
 obtain⟨v,l,rfl,hrd,hx⟩:=eO (f:=fun a:Value×List Bool=>[a.1]) (G:=fun a:Value×List Bool=>RdP (aH w) 1 a.1 a.2.length (a.2.flatMap dq)) Tryz.underlying22 sX (by omega) (fun _=>rfl) (fun m hm cs d hd=>qB hd) h
 have hfl:l.flatMap (fun a:Value×List Bool=>[a.1])=l.map Prod.fst:=by
  clear hrd hx
  induction l with
  | nil=>rfl
  | cons a l ih=>rw [List.flatMap_cons,ih];rfl
 rw [hfl]at hrd
 refine⟨v,l.map Prod.snd,rfl,l.map Prod.fst,by simp,fun u hu=>?_,by simpa using RdP.of_rd hrd (by omega),fun i u r hu hr=>?_⟩
 ·obtain⟨a,ha,rfl⟩:=List.mem_map.1 hu
  exact(hx a ha).oneV
 ·rw [List.getElem?_map]at hu hr
  cases hl:l[i]? with
  | none=>rw [hl]at hu;cases hu
  | some a =>
   rw [hl]at hu hr
   obtain rfl:=Option.some.inj hu
   obtain rfl:=Option.some.inj hr
   exact hx a (List.mem_of_getElem? hl)
theorem sm {fuel:Nat}{cs:List Value}{x:DataW H×List MemPlace}(h:DataW.trod enc Tryz.prog w base spare held fuel 38 cs=some x):∃(v:Value) (l:List (List StmM)),cs = [v]∧TxnL (aH w) v l:=by
 obtain⟨v,r,hc,hrd,hf⟩:=eO (f:=TxnE.cells) (G:=fun t:TxnE=>∃ss:List StmM,StmL (aH w) (.slice t.sa t.sn t.sc) ss) Tryz.underlying38 cO_tx (by omega) TxnE.len (fun m hm cs d hd=>opO_txn hd) h
 obtain⟨ss,hss⟩:=mC r hf
 exact⟨v,ss,hc,r,hss,RdP.of_rd hrd (by omega)⟩
end
end Go.Proofs.YtdobimafhbfkhaaGreat
