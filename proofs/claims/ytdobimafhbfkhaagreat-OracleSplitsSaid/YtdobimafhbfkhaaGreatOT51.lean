/- Joined texts: An oracle behind transactions (behind). The document's answer: are rows the same (ratlineref02.Rows). Helpers of the oracle's laws: rows that are told of a table, an element of a slice, the form's word about statements. -/
import Derived.Test.YtdobimafhbfkhaaGreatOT50
import Derived.Test.YtdobimafhbfkhaaGreatOT35
import Derived.Deep.DeepCutAuto
set_option maxHeartbeats 64000000
namespace Go.Proofs.YtdobimafhbfkhaaGreat
open Go.ChangeShapes Go.WideShapes Go.ChangeAt Go.RowKit
set_option maxRecDepth 100000
set_option linter.unusedSimpArgs false
def FitT (ts:List (List StmM)):Prop:=∀ss∈ts,∀s∈ss,bR s.row∧∀q∈s.sets,q.v.fit
theorem TxnL.fits {D:PH}{v:Value}{ts:List (List StmM)}(h:TxnL D v ts):FitT ts:=fun ss hss s hs=>by
 obtain⟨es,h1,_⟩:=h
 obtain⟨i,hi⟩:=List.mem_iff_getElem?.1 hss
 have hlt:i<es.length:=by rw [h1.len];exact(List.getElem?_eq_some_iff.1 hi).1
 obtain⟨ss',hs',xs,hx,_⟩:=h1.get (List.getElem?_eq_getElem hlt)
 rw [hi]at hs'
 cases hs'
 obtain⟨k,hk⟩:=List.mem_iff_getElem?.1 hs
 have hlt2:k<xs.length:=by rw [hx.len];exact(List.getElem?_eq_some_iff.1 hk).1
 obtain⟨s',hs',hok⟩:=hx.get (List.getElem?_eq_getElem hlt2)
 rw [hk]at hs'
 cases hs'
 exact⟨hok.row.2,hok.sets.2⟩
theorem mX (cols:List (List Bool)):OrI 0 (d6 cols):=by
 refine⟨⟨by show(List.replicate cols.length ([]:ay)).length=cols.length;rw [List.length_replicate],fun i c m hc hm=>?_⟩,fun i m hm=>?_⟩
 ·have:(List.replicate cols.length ([]:ay))[i]?=some m:=hm
  rw [List.getElem?_replicate]at this
  split at this
  ·cases this;exact⟨TabI.nil c,Nat.zero_le _⟩
  ·cases this
 ·have:(List.replicate cols.length ([]:ay))[i]?=some m:=hm
  rw [List.getElem?_replicate]at this
  split at this
  ·cases this;exact Nat.le_refl _
  ·cases this
theorem RowsRd.shape {w:World}{v:Value}{rs:List (List Val)}(h:RowsRd w v rs):∃ao cap,v = .slice ao rs.length cap∧rs.length≤maxLen:=by
 obtain⟨hs,_,⟨_,m,ao,cap,h,_⟩,_⟩:=h
 exact⟨ao,cap,h,m⟩
theorem RowsRd.at {w:World}{ao:Option Addr}{n cap i:Nat}{rs:List (List Val)}{r:List Val}(h:RowsRd w (.slice ao n cap) rs)(hr:rs[i]?=some r):∃g og o cp,ao=some ⟨g,og,none⟩∧w.cell? ⟨g,og+i,none⟩=some (.slice o r.length cp)∧eh w (.slice o r.length cp) r:=by
 obtain⟨hs,h1,h2,h3⟩:=h
 have hlt:=(List.getElem?_eq_some_iff.1 hr).1
 obtain⟨u,hu⟩:∃u,hs[i]?=some u:=⟨hs[i]'(by omega),List.getElem?_eq_getElem _⟩
 have h4:=h3 i u r hu hr
 obtain⟨_,_,ao2,cap2,rfl,_⟩:=id h4
 rcases h2.2.2 with ⟨_,_,hv,_,_,_,hcell⟩
 cases hv
 rcases hcell with h0|⟨g,o,hg,hcc⟩
 ·omega
 ·exact⟨g,o,ao2,cap2,hg,hcc i _ hu,h4⟩
theorem ou {w:World}{v1 v2:Value}{l1 l2:List (List Val)}(h1:RowsRd w v1 l1)(h2:RowsRd w v2 l2) :
  Calls Tryz.prog 20 #[v1,v2] w fun e w'=>e = .returned (.bool (decide (l1=l2)))∧Kept (fun _=>False) w w':=by
 obtain⟨a1,c1,rfl,m1⟩:=h1.shape
 obtain⟨a2,c2,rfl,m2⟩:=h2.shape
 unfold maxLen at m1 m2
 have H1:=CM h1
 have H2:=CM h2
 clear h1 h2
 by_cases hlen:l1.length=l2.length
 ·rw [←hlen]at H2 m2 ⊢
  have vi:=CM hlen
  generalize hL:l1.length=N at *
  have xK:=CM hL
  clear hlen hL
  go_enter Tryz.func20,Tryz.ntmps20
  go_wp2_with fail
  go_loopw [5,6] (fun i _ wr=>∃k:Nat,i = .int .i64 k∧k≤N∧l1.take k=l2.take k∧Kept (fun _=>False) w wr) (fun i _ _=>N-(intOf i).toNat)
  case atStart=>exact⟨0,rfl,by omega,rfl,Kept.refl _ _⟩
  case round =>
   obtain⟨k,rfl,hk,ht,hkr⟩:=hrel
   have HT:=CM ht
   have HK:=CM hkr
   clear ht hkr
   by_cases hlt:k<N
   ·obtain⟨a,ha⟩:∃a,l1[k]?=some a:=⟨l1[k]'(by rw [xK.out];exact hlt),List.getElem?_eq_getElem _⟩
    obtain⟨b,hb⟩:∃b,l2[k]?=some b:=⟨l2[k]'(by rw [←vi.out];exact hlt),List.getElem?_eq_getElem _⟩
    obtain⟨g1,og1,o1,p1,rfl,x0,r1⟩:=(RowsRd.kept HK.out H1.out).at ha
    obtain⟨g2,og2,o2,p2,rfl,y0,r2⟩:=(RowsRd.kept HK.out H2.out).at hb
    have Bu:=CM r1
    have yh:=CM r2
    have HA:=CM ha
    have HB:=CM hb
    have hkn:(k:Int)<(N:Int):=by omega
    clear ha hb r1 r2
    go_upto_region 6 with (fail)
    refine af [(0,false,8),(1,false,8),(2,false,8),(3,false,8),(4,false,8),(5,false,8),(6,false,8),(7,false,8),(8,true,0),(9,false,999)] (by kernel_rfl) (by kernel_rfl) ?_
    iterate 8 (refine ae rfl rfl (fun K hK=>?_);go_simp;refine hK _ ?_;clear hK K)
    refine ag rfl ?_
    refine au rfl (fun K hK=>?_)
    go_simp
    refine(tF (w:=wr.drew) Bu.out yh.out).mono ?_
    rintro e3 w3 ⟨rfl,n3,hn3⟩
    have vI:=CM (show Kept (fun _=>False) w w3 by rw [hn3];exact HK.out.drew.drewN _)
    clear hn3 x0 y0
    refine hK _ _ ?_
    clear hK K
    refine wpList_nil ?_
    refine And.intro ?_ ?_
    ·go_simp
    refine ae rfl rfl (fun K hK=>?_);go_simp;refine hK _ ?_;clear hK K
    refine ah ?_
    by_cases hab:a=b
    ·subst hab
     have CG:=CM (iR HT.out HA.out HB.out)
     have hd:decide (a=a)=true:=decide_eq_true rfl
     go_wp2_with fail
     go_roundw
     case rel=>exact⟨k+1,by go_num,by omega,CG.out,vI.out⟩
     case measure=>simp [intOf];omega
    ·have wl:=CM (show decide (l1=l2)=false from decide_eq_false (fun h=>by
      have h3:=HA.out
      rw [h,HB.out]at h3
      exact hab (Option.some.inj h3).symm))
     have hd:decide (a=b)=false:=decide_eq_false hab
     go_wp2_with fail
     go_ret
     rw [wl.out]
     exact⟨rfl,vI.out⟩
   ·have Bt:=CM (show decide (l1=l2)=true from decide_eq_true (jH HT.out (by rw [xK.out];omega) (by rw [←vi.out];omega)))
    go_wp2_with fail
    go_ret
    rw [Bt.out]
    exact⟨rfl,HK.out⟩
 ·have wl:=CM (show decide (l1=l2)=false from decide_eq_false (fun h=>hlen (by rw [h])))
  have hl':((l1.length:Int) == (l2.length:Int))=false:=by simp;omega
  clear hlen
  go_enter Tryz.func20,Tryz.ntmps20
  go_wp2_with fail
  go_ret
  rw [wl.out]
  exact⟨rfl,Kept.refl _ _⟩
abbrev tSts : TypeId:=49
theorem infoSt2 : (Tryz.prog.info? tSt).map (fun i=>(i.zero,i.size,i.bytes))=some (some (.agg stZ.cells.toArray),20,232):=by kernel_rfl
end Go.Proofs.YtdobimafhbfkhaaGreat
