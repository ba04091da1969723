/- An oracle behind transactions (behind), and what follows. -/
import Derived.Test.YtdobimafhbfkhaaGreatOY39
import Derived.Test.YtdobimafhbfkhaaGreatOY28
import Derived.Deep.DeepCutAuto
set_option maxHeartbeats 64000000
namespace Go.Proofs.YtdobimafhbfkhaaGreat
open Go.ChangeShapes Go.WideShapes Go.ChangeAt Go.RowKit
set_option maxRecDepth 100000
set_option linter.unusedSimpArgs false
def mK (O:OrM)(ts:List (List StmM)):OrM:=ts.foldl (fun o ss=>(o.run ss).1) O
theorem uu (O:OrM)(ts:List (List StmM))(ss:List StmM):mK O (ts ++ [ss])=((mK O ts).run ss).1:=by unfold mK;rw [List.foldl_append];rfl
def FitT (ts:List (List StmM)):Prop:=∀ss∈ts,∀s∈ss,bG s.row∧∀q∈s.sets,q.v.fit
theorem TxnL.fits {D:PH}{v:Value}{ts:List (List StmM)}(h:TxnL D v ts):FitT ts:=fun ss hss s hs=>by
 obtain⟨es,h1,_⟩:=h;obtain⟨i,hi⟩:=List.mem_iff_getElem?.1 hss;have hlt:i<es.length:=by rw [h1.len];exact(FO.1 hi).1
 obtain⟨ss',hs',xs,hx,_⟩:=h1.get (FP hlt);rw [hi]at hs';cases hs';obtain⟨k,hk⟩:=List.mem_iff_getElem?.1 hs;have hlt2:k<xs.length:=by rw [hx.len];exact(FO.1 hk).1
 obtain⟨s',hs',hok⟩:=hx.get (FP hlt2);rw [hk]at hs';cases hs';exact⟨hok.row.2,hok.sets.2⟩
theorem OrI.runs {O:OrM}:∀(ts:List (List StmM)) {n:Nat},OrI n O→FitT ts→n+i8 ts≤150→OrI (n+i8 ts) (mK O ts)
 | [],n,h,_,_=>h
 | ss::ts,n,h,hf,hn=>by
  have e:i8 (ss::ts)=ss.length+i8 ts:=by unfold i8;simp
  rw [e]at hn ⊢;have h1:=h.run ss (hf ss (Gc ..)) (by omega);have h2:=OrI.runs ts h1 (fun q hq=>hf q (F4 _ hq)) (by omega);rw [←Nat.add_assoc];exact h2
theorem new_orI (cols:List (List Bool)):OrI 0 (fJ cols):=by
 refine⟨⟨by show(List.replicate cols.length ([]:aq)).length=cols.length;rw [List.length_replicate],fun i c m hc hm=>?_⟩,fun i m hm=>?_⟩
 ·have:(List.replicate cols.length ([]:aq))[i]?=some m:=hm
  rw [List.getElem?_replicate]at this;split at this
  ·cases this;exact⟨TabI.nil c,Gp _⟩
  ·cases this
 ·have:(List.replicate cols.length ([]:aq))[i]?=some m:=hm
  rw [List.getElem?_replicate]at this;split at this
  ·cases this;exact Gn _
  ·cases this
theorem RowsRd.shape {w:World}{v:Value}{rs:List (List Val)}(h:RowsRd w v rs):∃ao cap,v = .slice ao rs.length cap∧rs.length≤maxLen:=by
 obtain⟨hs,_,⟨_,m,ao,cap,h,_⟩,_⟩:=h;exact⟨ao,cap,h,m⟩
theorem RowsRd.at {w:World}{ao:Option Addr}{n cap i:Nat}{rs:List (List Val)}{r:List Val}(h:RowsRd w (.slice ao n cap) rs)(hr:rs[i]?=some r):∃g og o cp,ao=some ⟨g,og,none⟩∧w.cell? ⟨g,og+i,none⟩=some (.slice o r.length cp)∧em w (.slice o r.length cp) r:=by
 obtain⟨hs,h1,h2,h3⟩:=h;have hlt:=(FO.1 hr).1;obtain⟨u,hu⟩:∃u,hs[i]?=some u:=⟨hs[i]'(by omega),FP _⟩;have h4:=h3 i u r hu hr;obtain⟨_,_,ao2,cap2,rfl,_⟩:=id h4;rcases h2.2.2 with ⟨_,_,hv,_,_,_,hcell⟩
 cases hv;rcases hcell with h0|⟨g,o,hg,hcc⟩
 ·omega
 ·exact⟨g,o,ao2,cap2,hg,hcc i _ hu,h4⟩
theorem mO {w:World}{v1 v2:Value}{l1 l2:List (List Val)}(h1:RowsRd w v1 l1)(h2:RowsRd w v2 l2) :
  Calls Tryz.prog 20 #[v1,v2] w fun e w'=>e = .returned (.bool (decide (l1=l2)))∧Kept (fun _=>False) w w':=by
 obtain⟨a1,c1,rfl,m1⟩:=h1.shape;obtain⟨a2,c2,rfl,m2⟩:=h2.shape;unfold maxLen at m1 m2;have H1:=FH h1;have H2:=FH h2;clear h1 h2;by_cases hlen:l1.length=l2.length
 ·rw [←hlen]at H2 m2 ⊢
  have yl:=FH hlen;generalize hL:l1.length=N at *;have zj:=FH hL;clear hlen hL;go_enter Tryz.func20,Tryz.ntmps20;go_wp2_with fail
  go_loopw [5,6] (fun i _ wr=>∃k:Nat,i = .int .i64 k∧k≤N∧l1.take k=l2.take k∧Kept (fun _=>False) w wr) (fun i _ _=>N-(intOf i).toNat)
  case atStart=>exact⟨0,rfl,by omega,rfl,Kept.refl _ _⟩
  case round =>
   obtain⟨k,rfl,hk,ht,hkr⟩:=hrel;have HT:=FH ht;have HK:=FH hkr;clear ht hkr;by_cases hlt:k<N
   ·obtain⟨a,ha⟩:∃a,l1[k]?=some a:=⟨l1[k]'(by rw [zj.out];exact hlt),FP _⟩
    obtain⟨b,hb⟩:∃b,l2[k]?=some b:=⟨l2[k]'(by rw [←yl.out];exact hlt),FP _⟩;obtain⟨g1,og1,o1,p1,rfl,x0,r1⟩:=(RowsRd.kept HK.out H1.out).at ha;obtain⟨g2,og2,o2,p2,rfl,y0,r2⟩:=(RowsRd.kept HK.out H2.out).at hb;have Ct:=FH r1;have A2:=FH r2;have HA:=FH ha;have HB:=FH hb;have hkn:(k:Int)<(N:Int):=by omega
    clear ha hb r1 r2;go_upto_region 6 with (fail)
    refine aH [rq 0 8,rq 1 8,rq 2 8,rq 3 8,rq 4 8,rq 5 8,rq 6 8,rq 7 8,(8,true,0),rq 9 999] ?_;(iterate 8 (refine ae rfl rfl fun K hK=>?_;go_simp;apply hK;clear hK K));refine af rfl ?_;refine al rfl fun K hK=>?_;go_simp;refine(vV (w:=wr.drew) Ct.out A2.out).mono ?_;rintro e3 w3 ⟨rfl,n3,hn3⟩;have xV:=FH (show Kept (fun _=>False) w w3 by rw [hn3];exact HK.out.drew.drewN _);clear hn3 x0 y0;refine hK _ _ ?_;clear hK K;refine wpList_nil ?_;apply And.intro
    ·go_simp
    refine ae rfl rfl fun K hK=>?_;go_simp;apply hK;clear hK K;refine ag ?_;by_cases hab:a=b
    ·subst hab
     have Fm:=FH (gH HT.out HA.out HB.out);have hd:decide (a=a)=true:=F5 rfl;go_wp2_with fail;go_roundw
     case rel=>exact⟨k+1,by go_num,by omega,Fm.out,xV.out⟩
     case measure=>simp [intOf];omega
    ·have zt:=FH (show decide (l1=l2)=false from FY (fun h=>by
      have h3:=HA.out;rw [h,HB.out]at h3;exact hab (Option.some.inj h3).symm))
     have hd:decide (a=b)=false:=FY hab;go_wp2_with fail;go_ret;rw [zt.out];exact⟨rfl,xV.out⟩
   ·have Cs:=FH (show decide (l1=l2)=true from F5 (kH HT.out (by rw [zj.out];omega) (by rw [←yl.out];omega)))
    go_wp2_with fail;go_ret;rw [Cs.out];exact⟨rfl,HK.out⟩
 ·have zt:=FH (show decide (l1=l2)=false from FY (fun h=>hlen (by rw [h])))
  have hl':((l1.length:Int) == (l2.length:Int))=false:=by simp;omega
  clear hlen;go_enter Tryz.func20,Tryz.ntmps20;go_wp2_with fail;go_ret;rw [zt.out];exact⟨rfl,Kept.refl _ _⟩
theorem vl {O:OrM}{i:Nat}{m:aq}(h:O.tabs[i]?=some m):ii O (i:Int)=m:=by
 have hlt:=(FO.1 h).1;unfold ii;rw [if_pos ⟨by omega,by omega⟩,F6,FW,h]
 rfl
theorem nR : (Tryz.prog.info? tRs).map (fun i=>(i.zero,i.size,i.bytes))=some (some (.slice none 0 0),1,24):=by kernel_rfl
theorem ji {w:World}{ao:Option Addr}{n cap k:Nat}{xs:List Value}{u:Value}(h:Rd w 1 (.slice ao n cap) n xs)(hu:xs[k]?=some u)(hk:k<n):∃g og,ao=some ⟨g,og,none⟩∧w.cell? ⟨g,og+k,none⟩=some u:=by
 rcases h.2.2 with ⟨_,_,hv,_,_,_,hcell⟩
 cases hv;rcases hcell with h0|⟨g,o,hg,hcc⟩
 ·omega
 ·exact⟨g,o,hg,hcc k _ hu⟩
end Go.Proofs.YtdobimafhbfkhaaGreat
