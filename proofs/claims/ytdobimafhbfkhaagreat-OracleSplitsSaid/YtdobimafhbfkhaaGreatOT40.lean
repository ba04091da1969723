/- Back to a savepoint (txn.back). -/
import Derived.Test.YtdobimafhbfkhaaGreatOT39
set_option maxHeartbeats 64000000
namespace Go.Proofs.YtdobimafhbfkhaaGreat
open Go.ChangeShapes Go.WideShapes Go.ChangeAt Go.RowKit
set_option maxRecDepth 100000
set_option linter.unusedSimpArgs false
def TxM.yb (X:TxM)(j:Nat):TxM:={ X with tabs:=cU X.tabs (X.log.drop j),log:=X.log.take j }
def tu (w:World)(a:Addr):Nat:=match w.cell? a with
 | some (.slice _ n _)=>n
 | _=>0
theorem r7 {B w:World}{D:PH}{x o:Nat}{X:TxM}{l:List HP}(h:TxIn B w D x o X l):∃la lc,w.cell? ⟨x,1,none⟩=some (.slice la X.log.length lc):=by
 obtain⟨H,hH,hs⟩:=h
 obtain⟨-,c1,-⟩:=cW hs
 obtain⟨la,lc,hlv⟩:=(hs.front 1 rfl).own_shape
 rw [hlv,hH.log.len]at c1
 exact⟨la,lc,c1⟩
theorem pA {B w:World}{D:PH}{x o:Nat}{X:TxM}{l:List HP}(h:TxIn B w D x o X l):tu w ⟨x,1,none⟩=X.log.length:=by
 obtain⟨la,lc,h1⟩:=r7 h
 unfold tu
 rw [h1]
theorem jj {X:TxM}{j:Nat}(h:j≤X.log.length):(X.yb j).log.length=j:=by
 show(X.log.take j).length=j
 rw [List.length_take];omega
theorem tk (X:TxM):X.yb X.log.length=X:=by
 unfold TxM.yb
 rw [List.drop_of_length_le (Nat.le_refl _),List.take_of_length_le (Nat.le_refl _)]
 rfl
theorem rW (X:TxM){A j:Nat}(hj:j≤X.log.length)(ha:A≤j∨j=X.log.length)(hja:j≤A):X.yb A=X.yb j:=by
 by_cases h:A=j
 ·rw [h]
 ·have h1:j=X.log.length:=by omega
  rw [h1,tk]
  unfold TxM.yb
  rw [List.drop_of_length_le (by omega),List.take_of_length_le (by omega)]
  rfl
theorem mh {X:TxM}{k:Nat}{A:Nat}(h:X.saves[k]?=some ((A:Int)+1)):X.back (k:Int)=({ X.yb A with saves:=X.saves.map (fun m=>if (A:Int)+1<m then 0 else m) },cD 0):=by
 have h1:X.saves.getD k 0=(A:Int)+1:=by rw [List.getD_eq_getElem?_getD,h];rfl
 unfold TxM.back
 rw [Int.toNat_natCast,h1,if_neg (by omega)]
 simp only [show((A:Int)+1-1).toNat=A by omega]
 rfl
theorem lT {X:TxM}{k:Nat}(h:X.saves[k]?=some 0):X.back (k:Int)=(X,cD 70):=by
 have h1:X.saves.getD k 0=0:=by rw [List.getD_eq_getElem?_getD,h];rfl
 unfold TxM.back
 rw [Int.toNat_natCast,h1,if_pos rfl]
def svf (A:Nat)(S:List Int)(q:Nat):List Int:=(S.take q).map (fun m=>if (A:Int)+1<m then 0 else m)++S.drop q
theorem kj {A:Nat}{S:List Int}{q:Nat}{n:Int}(hn:S[q]?=some n):(svf A S q)[q]?=some n:=by
 have hlt:=(List.getElem?_eq_some_iff.1 hn).1
 unfold svf
 rw [List.getElem?_append_right (by simp;omega),List.length_map,List.length_take,Nat.min_eq_left (by omega),Nat.sub_self,List.getElem?_drop,Nat.add_zero,hn]
theorem gz {A:Nat}{S:List Int}{q:Nat}{n:Int}(hn:S[q]?=some n):svf A S (q+1)=(svf A S q).set q (if (A:Int)+1<n then 0 else n):=by
 obtain⟨hlt,he⟩:=List.getElem?_eq_some_iff.1 hn
 unfold svf
 rw [List.set_append_right _ _ (by simp;omega),List.length_map,List.length_take,Nat.min_eq_left (by omega),Nat.sub_self,List.drop_eq_getElem_cons hlt,CQ,List.take_add_one,hn]
 simp
theorem nX {α:Type}{l:List α}{i:Nat}{a:α}(h:l[i]?=some a):l.set i a=l:=by
 refine List.ext_getElem? fun j=>?_
 by_cases hj:i=j
 ·subst hj;rw [List.getElem?_set_self (List.getElem?_eq_some_iff.1 h).1,h]
 ·rw [List.getElem?_set_ne hj]
theorem nj {A:Nat}{S:List Int}{q:Nat}{n:Int}(hn:S[q]?=some n)(h:¬(A:Int)+1<n):svf A S (q+1)=svf A S q:=by
 rw [gz hn,if_neg h]
 exact nX (kj hn)
theorem cQ {P:Program}{ops:Array Oper}{rest:List Oper}{o:Oper}{a:Act}{w:World}{Q:Exit→Act→World→Prop}(hgd:o.guard=none)(ty:TypeId)(xo yo:Operand)(ho:o.op = .index ty xo yo)(xv yv v:Value)(hx:a.eval xo=xv)(hy:a.eval yo=yv)(hrun:(Instr.index ty xv yv).run P w = .ok v w)
  (k:wpList P ops Q rest (a.put o.dst v) w):wpList P ops Q (o::rest) a w :=
 wpList_plain hgd fun _ hK=>by
  unfold Oper.wp execOp
  simp only [ho,hx,hy,Sem.run_bind,Sem.run_pure,Result.andThen_ok,hrun]
  exact hK _ _ k
theorem pn (n1 n2 n3 n4:Int)(w:World):(Instr.index 90 (.agg #[.int .i64 n1,.int .i64 n2,.int .i64 n3,.int .i64 n4]) (.int .i64 0)).run Tryz.prog w = .ok (.int .i64 n1) w ∧
  (Instr.index 90 (.agg #[.int .i64 n1,.int .i64 n2,.int .i64 n3,.int .i64 n4]) (.int .i64 1)).run Tryz.prog w = .ok (.int .i64 n2) w ∧
  (Instr.index 90 (.agg #[.int .i64 n1,.int .i64 n2,.int .i64 n3,.int .i64 n4]) (.int .i64 2)).run Tryz.prog w = .ok (.int .i64 n3) w ∧
  (Instr.index 90 (.agg #[.int .i64 n1,.int .i64 n2,.int .i64 n3,.int .i64 n4]) (.int .i64 3)).run Tryz.prog w = .ok (.int .i64 n4) w:=⟨rfl,rfl,rfl,rfl⟩
theorem rU {B w:World}{D:PH}{x o k:Nat}{X:TxM}{l:List HP}{e:StmE}{s:StmM}(hs:StmOk D e s)(hi:s.save=(k:Int))(hk:k<4)(hlog:LogI X.cols X.tabs X.log.reverse)(hsv:∀n∈X.saves,0≤n)(h:TxIn B w D x o X l) :
  Calls Tryz.prog 69 #[.pointer (some ⟨x,0,none⟩),.agg e.cells.toArray] w (d4 B D x o l (X.back s.save)):=by
 obtain⟨W0,hW0,h2⟩:=dN h e.cells.toArray aZ tSt bl
 have uI:=CM hW0
 have h4:X.saves.length=4:=by obtain⟨H,hH,_⟩:=h;exact hH.saves
 have h5:X.log.length≤10000:=by obtain⟨H,hH,_⟩:=h;exact hH.small
 obtain⟨n0,hn0⟩:∃n0,X.saves[k]?=some n0:=⟨X.saves[k]'(by omega),List.getElem?_eq_getElem _⟩
 obtain⟨-,c0,hsvc,-,-⟩:=kO h2
 have cs:=hsvc k n0 hn0
 have hge:=hsv n0 (List.mem_of_getElem? hn0)
 have uv:=CM h2
 have wm:=CM (show e.save=(k:Int)from hs.save.trans hi)
 have HI:=CM hi
 have wL:=CM hn0
 have AU:=CM hlog
 have H4:=CM h4
 have H5:=CM h5
 have hk4:(k:Int)<4:=by omega
 clear h hs hi hW0 h2 hlog hsv hn0 hsvc h4 h5
 go_enter Tryz.func69,Tryz.ntmps69
 go_upto_region 1 with fail
 rw [←uI.out]
 clear uI
 generalize w.heap.size+1=ba at uv ⊢
 generalize w.heap.size=bs at uv ⊢
 obtain⟨x0,x2,x3,x4,x5,x6,x7,x17,x18,x19⟩:=bj (uv.out.sat.blk 1 rfl)
 rw [wm.out]at x17
 refine af [(0,false,999),(1,false,999),(2,false,999),(3,false,999),(4,false,999),(5,false,999),(6,false,999),(7,false,999)] (by kernel_rfl) (by kernel_rfl) ?_
 iterate 8 (refine ae rfl rfl (fun K hK=>?_);go_simp;refine hK _ ?_;clear hK K)
 refine ah ?_
 have uk:=CM (uv.out.kept (Kept.refl (fun _=>False) W0).drew)
 clear uv c0 cs x0 x2 x3 x4 x5 x6 x7 x17 x18 x19
 generalize W0.drew=W1 at uk ⊢
 rcases Int.lt_or_eq_of_le hge with hpos|h0
 ·obtain⟨A,hA⟩:∃A:Nat,n0=(A:Int)+1:=⟨(n0-1).toNat,by omega⟩
  have hz:(n0 == 0)=false:=by simp;omega
  have hz2:n0≠0:=by omega
  have HA:=CM hA
  have HE:=CM (show X.back s.save=({ X.yb A with saves:=X.saves.map (fun m=>if (A:Int)+1<m then 0 else m) },cD 0) by rw [HI.out];exact mh (by rw [wL.out,hA]))
  clear hA hge hpos
  have ur:=CM (show TxIn B W1 D x o (X.yb X.log.length) (blk ba aZ bl::blk bs e.cells.toArray tSt::l) by rw [tk];exact uk.out)
  clear uk
  go_wp2_with fail
  go_loopw [] (fun wr=>∃(j:Nat),j≤X.log.length∧(A≤j∨j=X.log.length)∧TxIn B wr D x o (X.yb j) (blk ba aZ bl::blk bs e.cells.toArray tSt::l)) (fun wr=>tu wr ⟨x,1,none⟩)
  case atStart=>exact⟨X.log.length,Nat.le_refl _,.inr rfl,ur.out⟩
  case round =>
   obtain⟨N1,hN1,hAj,htx⟩:=hrel
   have uS:=CM htx
   have BZ:=CM hAj
   have xa:=CM hN1
   have vW:=CM (pA htx)
   rw [jj hN1]at vW
   clear htx hAj ur
   by_cases hlt:A+1≤N1
   ·obtain⟨j,rfl⟩:∃j,N1=j+1:=⟨N1-1,by omega⟩
    obtain⟨g,lc,en,b,hb,hok,c1,hlc,hec,-,-⟩:=sw uS.out (jj xa.out)
    have hb2:X.log[j]?=some b:=by
     have h1:(X.log.take (j+1))[j]?=some b:=hb
     rw [List.getElem?_take]at h1
     simpa using h1
    have vk:=CM (AU.out.step hb2)
    have vp:=CM hok
    have hg0:n0≤((j+1:Nat):Int):=by have:=HA.out;omega
    have e0:=hec 0 _ rfl
    rw [Nat.add_zero]at e0
    have e1:=hec 1 _ rfl
    have e2:=hec 2 _ rfl
    have e3:=hec 3 _ rfl
    have e4:=hec 4 _ rfl
    have CK:=CM hec
    have hjj:(j:Int)<((j+1:Nat):Int):=by omega
    have hw1:IntKind.i64.wrap (((j+1:Nat):Int)-1)=(j:Int):=by rw [IntWalk.i64_in _ (by have:=H5.out;omega)];omega
    have C1:=CM c1
    have Bp:=CM hlc
    clear hec hb hb2 hok hlt hN1 hlc
    generalize hNN:j+1=N1 at *
    have we:=CM hNN
    clear hNN
    go_upto_region 5 with fail
    refine af [(0,false,13),(1,false,13),(2,false,13),(3,false,13),(4,false,13),(5,false,13),(6,false,13),(7,false,13),(8,false,13),(9,false,13),(10,false,13),(11,false,13),(12,true,0),(13,true,0)] (by kernel_rfl) (by kernel_rfl) ?_
    iterate 12 (refine ae rfl rfl (fun K hK=>?_);go_simp;refine hK _ ?_;clear hK K)
    refine ag rfl ?_
    refine wpList_plain rfl (fun K hK=>?_)
    go_simp
    refine hK _ _ ?_
    clear hK K
    refine wpList_nil ?_
    have xH:=CM (((Kept.refl (fun _=>False) wr).alloc (.cells #[.int .i64 0,.bool false,.int .i64 0,.string ⟨#[]⟩,.slice none 0 0] dm)).drew)
    have ut:=CM ((uS.out.alloc #[.int .i64 0,.bool false,.int .i64 0,.string ⟨#[]⟩,.slice none 0 0] dm).kept (Kept.refl (fun _=>False) _).drew)
    have c1':=xH.out.cell' c1 (fun h=>h)
    have e0':=xH.out.cell' e0 (fun h=>h)
    have e1':=xH.out.cell' e1 (fun h=>h)
    have e2':=xH.out.cell' e2 (fun h=>h)
    have e3':=xH.out.cell' e3 (fun h=>h)
    have e4':=xH.out.cell' e4 (fun h=>h)
    clear c1 e0 e1 e2 e3 e4
    obtain⟨W3,hW3⟩:∃W,W=(wr.alloc (.cells #[.int .i64 0,.bool false,.int .i64 0,.string ⟨#[]⟩,.slice none 0 0] dm)).drew:=⟨_,rfl⟩
    rw [←hW3]at ut c1' e0' e1' e2' e3' e4' ⊢
    clear hW3 xH uS
    generalize wr.heap.size=bb at ut ⊢
    refine And.intro ?_ ?_
    ·go_simp
    refine ag rfl ?_
    refine az rfl _ _ _ rfl dm bb rfl en.cells rfl _ ut.out (by kernel_rfl) rfl en.one ?_
    intro w4 htx4
    refine wpList_nil ?_
    have uy:=CM htx4
    clear htx4 ut c1' e0' e1' e2' e3' e4'
    refine And.intro ?_ ?_
    ·go_simp
    refine ah ?_
    obtain⟨g2,lc2,-,-,-,-,c1,hlc2,-,cf,htx5⟩:=sw uy.out (by rw [jj xa.out];exact we.out.symm)
    rw [we.out]at c1 hlc2
    have uA:=CM (htx5.kept (Kept.refl (fun _=>False) _).drew)
    have hjc:j≤lc2:=by omega
    have hjc2:(j:Int)≤(lc2:Int):=by omega
    clear htx5 uy
    go_upto_region 6 with fail
    refine af [(0,false,14),(1,false,14),(2,false,14),(3,false,14),(4,false,14),(5,false,14),(6,false,14),(7,false,14),(8,false,14),(9,false,14),(10,false,14),(11,false,14),(12,false,14),(13,false,14),(14,true,0)] (by kernel_rfl) (by kernel_rfl) ?_
    iterate 14 (refine ae rfl rfl (fun K hK=>?_);go_simp;refine hK _ ?_;clear hK K)
    refine ag rfl ?_
    refine wpList_plain rfl (fun K hK=>?_)
    go_simp
    refine hK _ _ ?_
    clear hK K
    refine wpList_nil ?_
    clear c1 cf
    obtain⟨W6,hW6⟩:∃W,W=(w4.setCell ⟨x,1,none⟩ (.slice (some ⟨g2,0,none⟩) j lc2)).drew:=⟨_,rfl⟩
    rw [←hW6]at uA ⊢
    clear hW6
    refine And.intro ?_ ?_
    ·go_simp
    refine ah ?_
    obtain⟨i,m,hbt,hmt,hkr,hway⟩:=vk.out
    obtain⟨t,tg,og,pc,c0,d1,hpc,hdel,hput⟩:=tx_tree uA.out hmt
    have hlti:(i:Int)<((cU X.tabs (X.log.drop N1)).length:Int):=by have:=(List.getElem?_eq_some_iff.1 hmt).1;omega
    have d1':W6.cell? ⟨o,1,none⟩=some (.slice (some ⟨tg,og,none⟩) (cU X.tabs (X.log.drop N1)).length pc):=d1
    clear d1
    obtain⟨b0,b1,b2,b3,b4,bf⟩:=mK (show W6.heap[bb]?=some (.cells #[.int .i64 en.table,.bool en.key.t,.int .i64 en.key.n,.string en.key.s,.slice en.r.ro en.r.rn en.r.rc] dm (0,0))from uA.out.sat.blk 0 rfl)
    rw [vp.out.1,hbt]at b0
    rw [vp.out.2.1]at b1 b2 b3
    have hrn:en.r.rn=b.r.length:=by
     obtain⟨_,_,ao,c,h,_⟩:=vp.out.2.2.1
     have h2:Value.slice en.r.ro en.r.rn en.r.rc = .slice ao b.r.length c:=h
     exact(Value.slice.inj h2).2.1
    rw [hrn]at b4
    generalize hTN:(cU X.tabs (X.log.drop N1)).length=TN at *
    rcases hway with ⟨hbr,hyb⟩|⟨hbr,hbk,hpl,hyb⟩
    ·have Aw:=CM (show({ X.yb N1 with tabs:=(X.yb N1).tabs.set i (dx m b.key),log:=(X.yb N1).log.take j }:TxM)=X.yb j by
      unfold TxM.yb
      rw [hyb]
      simp only [List.take_take]
      rw [Nat.min_eq_left (by have:=we.out;omega)])
     have HD:=CM (hdel b.key hkr)
     rw [hbr,List.length_nil]at b4
     clear hdel hput hyb hbr hbt hmt hkr hrn hTN AU vk vp
     go_upto_region 8 with fail
     refine af [(0,false,13),(1,false,13),(2,false,13),(3,false,13),(4,false,13),(5,false,13),(6,false,13),(7,false,13),(8,false,13),(9,false,13),(10,false,13),(11,false,13),(12,false,13),(13,true,0)] (by kernel_rfl) (by kernel_rfl) ?_
     iterate 13 (refine ae rfl rfl (fun K hK=>?_);go_simp;refine hK _ ?_;clear hK K)
     refine ag rfl ?_
     refine au rfl (fun K hK=>?_)
     go_simp
     refine HD.out.mono ?_
     rintro e7 w7 ⟨bo,rfl,htx7⟩
     have vb:=CM (show TxIn B w7 D x o (X.yb j) (blk ba aZ bl::blk bs e.cells.toArray tSt::l)from Aw.out▸htx7.drop)
     clear htx7 HD uA Aw c0 d1' hpc b0 b1 b2 b3 b4 bf
     refine hK _ _ ?_
     clear hK K
     refine wpList_nil ?_
     refine And.intro ?_ ?_
     ·go_simp
     refine ah ?_
     go_wp2_with fail
     go_roundw
     case rel=>exact⟨j,by have:=xa.out;have:=we.out;omega,.inl (by have:=HA.out;have:=we.out;omega),vb.out⟩
     case measure=>rw [pA vb.out,jj (by have:=xa.out;have:=we.out;omega),vW.out];have:=we.out;omega
    ·have Aw:=CM (show({ X.yb N1 with tabs:=(X.yb N1).tabs.set i (cF m b.r),log:=(X.yb N1).log.take j }:TxM)=X.yb j by
      unfold TxM.yb
      rw [hyb]
      simp only [List.take_take]
      rw [Nat.min_eq_left (by have:=we.out;omega)])
     have HD:=CM (hput en.r b.r vp.out.2.2 (by rw [hbk];exact hkr) hpl)
     rw [hbk]at HD
     have hbl:0<b.r.length:=List.length_pos_iff.2 hbr
     have hen4:=hrn
     generalize hLB:b.r.length=LB at *
     have hlb1:(LB:Int)≠0:=by omega
     have hlb2:((LB:Int) == 0)=false:=by simp;omega
     have Bo:=CM (show en.r.v = .slice en.r.ro LB en.r.rc by show Value.slice en.r.ro en.r.rn en.r.rc=_;rw [hen4])
     rw [Bo.out]at HD
     clear hdel hput hyb hbr hbt hmt hkr hrn hTN AU vk vp hbk hpl hen4 hLB
     go_upto_region 9 with fail
     refine af [(0,false,15),(1,false,15),(2,false,15),(3,false,15),(4,false,15),(5,false,15),(6,false,15),(7,false,15),(8,false,15),(9,false,15),(10,false,15),(11,false,15),(12,false,15),(13,false,15),(14,false,15),(15,true,0)] (by kernel_rfl) (by kernel_rfl) ?_
     iterate 15 (refine ae rfl rfl (fun K hK=>?_);go_simp;refine hK _ ?_;clear hK K)
     refine ag rfl ?_
     refine au rfl (fun K hK=>?_)
     go_simp
     refine HD.out.mono ?_
     rintro e7 w7 ⟨bo,rfl,htx7⟩
     have vb:=CM (show TxIn B w7 D x o (X.yb j) (blk ba aZ bl::blk bs e.cells.toArray tSt::l)from Aw.out▸htx7.drop)
     clear htx7 HD uA Aw c0 d1' hpc b0 b1 b2 b3 b4 bf
     refine hK _ _ ?_
     clear hK K
     refine wpList_nil ?_
     refine And.intro ?_ ?_
     ·go_simp
     refine ah ?_
     go_wp2_with fail
     go_roundw
     case rel=>exact⟨j,by have:=xa.out;have:=we.out;omega,.inl (by have:=HA.out;have:=we.out;omega),vb.out⟩
     case measure=>rw [pA vb.out,jj (by have:=xa.out;have:=we.out;omega),vW.out];have:=we.out;omega
   ·obtain⟨la,lc,c1⟩:=r7 uS.out
    rw [jj xa.out]at c1
    have hg0:¬(n0≤(N1:Int)):=by have:=HA.out;omega
    have Cy:=CM (rW X xa.out BZ.out (by omega))
    obtain⟨lv,c0,hsc,cf,-⟩:=kO uS.out
    obtain⟨n1,n2,n3,n4,hns⟩:∃n1 n2 n3 n4,X.saves = [n1,n2,n3,n4]:=by
     have h4:=H4.out
     match hq:X.saves,h4 with
     | [a,b,c,d],_=>exact⟨a,b,c,d,rfl⟩
    have hns':(X.yb N1).saves = [n1,n2,n3,n4]:=hns
    rw [hns']at hsc
    have s0:=hsc 0 n1 rfl
    have s1:=hsc 1 n2 rfl
    have s2:=hsc 2 n3 rfl
    have s3:=hsc 3 n4 rfl
    rw [Nat.add_zero]at s0
    simp only [Nat.reduceAdd]at s1 s2 s3
    have uL:=CM hns
    clear hsc hns hns' hlt
    have yH:=CM (show TxIn B wr D x o { X.yb N1 with saves:=svf A X.saves 0 } (blk ba aZ bl::blk bs e.cells.toArray tSt::l)from uS.out)
    clear AU BZ xa vW uS
    go_wp2_with fail
    clear c0 c1 cf s0 s1 s2 s3 hg0
    go_loopw [90] (fun idx wq=>∃(q:Nat),idx = .int .i64 q∧q≤4∧TxIn B wq D x o { X.yb N1 with saves:=svf A X.saves q } (blk ba aZ bl::blk bs e.cells.toArray tSt::l)) (fun idx _=>4-(intOf idx).toNat)
    case atStart=>exact⟨0,rfl,Nat.zero_le _,yH.out⟩
    case round =>
     obtain⟨q,rfl,hq,htx⟩:=hrel
     have uS:=CM htx
     clear htx yH
     by_cases hq4:q<4
     ·have hq4':(q:Int)<4:=by omega
      obtain⟨r0,r1,r2,r3⟩:=pn n1 n2 n3 n4 wr
      have R0:=CM r0
      have R1:=CM r1
      have R2:=CM r2
      have R3:=CM r3
      clear r0 r1 r2 r3
      obtain⟨lv2,c0,hsc,cf,hset⟩:=kO uS.out
      have hcase:q=0∨q=1∨q=2∨q=3:=by omega
      rcases hcase with rfl|rfl|rfl|rfl
      ·have hnq:X.saves[0]?=some n1:=by rw [uL.out];rfl
       have sq:=hsc 0 n1 (kj hnq)
       simp only [Nat.reduceAdd,Nat.add_zero]at sq
       by_cases hgt:n0<n1
       ·have HQ:=CM (show TxIn B (wr.setCell ⟨x,2+0,none⟩ (.int .i64 0)) D x o { X.yb N1 with saves:=svf A X.saves (0+1) } (blk ba aZ bl::blk bs e.cells.toArray tSt::l) by rw [gz hnq,if_pos (by have:=HA.out;omega)];exact hset 0 0 (by omega))
        simp only [Nat.reduceAdd,Nat.add_zero]at HQ
        clear hnq hset hsc uS
        go_wp2_with (refine cQ rfl _ _ _ rfl _ _ _ rfl rfl R0.out ?_)
        go_roundw
        case rel=>exact⟨0+1,by go_num,by omega,HQ.out⟩
        case measure=>simp [intOf]
       ·have HQ:=CM (show TxIn B wr D x o { X.yb N1 with saves:=svf A X.saves (0+1) } (blk ba aZ bl::blk bs e.cells.toArray tSt::l) by rw [nj hnq (by have:=HA.out;omega)];exact uS.out)
        clear hnq hset hsc uS
        go_wp2_with (refine cQ rfl _ _ _ rfl _ _ _ rfl rfl R0.out ?_)
        go_roundw
        case rel=>exact⟨0+1,by go_num,by omega,HQ.out⟩
        case measure=>simp [intOf]
      ·have hnq:X.saves[1]?=some n2:=by rw [uL.out];rfl
       have sq:=hsc 1 n2 (kj hnq)
       simp only [Nat.reduceAdd,Nat.add_zero]at sq
       by_cases hgt:n0<n2
       ·have HQ:=CM (show TxIn B (wr.setCell ⟨x,2+1,none⟩ (.int .i64 0)) D x o { X.yb N1 with saves:=svf A X.saves (1+1) } (blk ba aZ bl::blk bs e.cells.toArray tSt::l) by rw [gz hnq,if_pos (by have:=HA.out;omega)];exact hset 1 0 (by omega))
        simp only [Nat.reduceAdd,Nat.add_zero]at HQ
        clear hnq hset hsc uS
        go_wp2_with (refine cQ rfl _ _ _ rfl _ _ _ rfl rfl R1.out ?_)
        go_roundw
        case rel=>exact⟨1+1,by go_num,by omega,HQ.out⟩
        case measure=>simp [intOf]
       ·have HQ:=CM (show TxIn B wr D x o { X.yb N1 with saves:=svf A X.saves (1+1) } (blk ba aZ bl::blk bs e.cells.toArray tSt::l) by rw [nj hnq (by have:=HA.out;omega)];exact uS.out)
        clear hnq hset hsc uS
        go_wp2_with (refine cQ rfl _ _ _ rfl _ _ _ rfl rfl R1.out ?_)
        go_roundw
        case rel=>exact⟨1+1,by go_num,by omega,HQ.out⟩
        case measure=>simp [intOf]
      ·have hnq:X.saves[2]?=some n3:=by rw [uL.out];rfl
       have sq:=hsc 2 n3 (kj hnq)
       simp only [Nat.reduceAdd,Nat.add_zero]at sq
       by_cases hgt:n0<n3
       ·have HQ:=CM (show TxIn B (wr.setCell ⟨x,2+2,none⟩ (.int .i64 0)) D x o { X.yb N1 with saves:=svf A X.saves (2+1) } (blk ba aZ bl::blk bs e.cells.toArray tSt::l) by rw [gz hnq,if_pos (by have:=HA.out;omega)];exact hset 2 0 (by omega))
        simp only [Nat.reduceAdd,Nat.add_zero]at HQ
        clear hnq hset hsc uS
        go_wp2_with (refine cQ rfl _ _ _ rfl _ _ _ rfl rfl R2.out ?_)
        go_roundw
        case rel=>exact⟨2+1,by go_num,by omega,HQ.out⟩
        case measure=>simp [intOf]
       ·have HQ:=CM (show TxIn B wr D x o { X.yb N1 with saves:=svf A X.saves (2+1) } (blk ba aZ bl::blk bs e.cells.toArray tSt::l) by rw [nj hnq (by have:=HA.out;omega)];exact uS.out)
        clear hnq hset hsc uS
        go_wp2_with (refine cQ rfl _ _ _ rfl _ _ _ rfl rfl R2.out ?_)
        go_roundw
        case rel=>exact⟨2+1,by go_num,by omega,HQ.out⟩
        case measure=>simp [intOf]
      ·have hnq:X.saves[3]?=some n4:=by rw [uL.out];rfl
       have sq:=hsc 3 n4 (kj hnq)
       simp only [Nat.reduceAdd,Nat.add_zero]at sq
       by_cases hgt:n0<n4
       ·have HQ:=CM (show TxIn B (wr.setCell ⟨x,2+3,none⟩ (.int .i64 0)) D x o { X.yb N1 with saves:=svf A X.saves (3+1) } (blk ba aZ bl::blk bs e.cells.toArray tSt::l) by rw [gz hnq,if_pos (by have:=HA.out;omega)];exact hset 3 0 (by omega))
        simp only [Nat.reduceAdd,Nat.add_zero]at HQ
        clear hnq hset hsc uS
        go_wp2_with (refine cQ rfl _ _ _ rfl _ _ _ rfl rfl R3.out ?_)
        go_roundw
        case rel=>exact⟨3+1,by go_num,by omega,HQ.out⟩
        case measure=>simp [intOf]
       ·have HQ:=CM (show TxIn B wr D x o { X.yb N1 with saves:=svf A X.saves (3+1) } (blk ba aZ bl::blk bs e.cells.toArray tSt::l) by rw [nj hnq (by have:=HA.out;omega)];exact uS.out)
        clear hnq hset hsc uS
        go_wp2_with (refine cQ rfl _ _ _ rfl _ _ _ rfl rfl R3.out ?_)
        go_roundw
        case rel=>exact⟨3+1,by go_num,by omega,HQ.out⟩
        case measure=>simp [intOf]
     ·obtain rfl:q=4:=by omega
      have zM:=CM (show TxIn B wr D x o { X.yb A with saves:=X.saves.map (fun m=>if (A:Int)+1<m then 0 else m) } (blk ba aZ bl::blk bs e.cells.toArray tSt::l) by
       have h1:svf A X.saves 4=X.saves.map (fun m=>if (A:Int)+1<m then 0 else m):=by
        unfold svf
        rw [List.take_of_length_le (by have:=H4.out;omega),List.drop_of_length_le (by have:=H4.out;omega),List.append_nil]
       rw [←h1,Cy.out]
       exact uS.out)
      clear uS
      go_wp2_with (refine az rfl _ _ _ rfl bl ba rfl [.int .i64 0,.slice none 0 0,.int .i64 0] rfl aZ zM.out (by kernel_rfl) rfl (by intro u hu;simp at hu;rcases hu with rfl|rfl|rfl<;>rfl) ?_;intro w6 hs6;have uu:=CM hs6;clear hs6 zM)
      refine bodyPost_ret (aR rfl _ _ rfl (bF rfl (aA (uu.out.sat.blk 0 rfl)))) rfl ?_
      rw [HE.out]
      exact⟨none,0,0,D,rfl,PH.le.refl _,RowsF.nil _,uu.out.drop.drop⟩
 ·subst h0
  have HE:=CM (show X.back s.save=(X,cD 70) by rw [HI.out];exact lT wL.out)
  go_wp2_with (refine az rfl _ _ _ rfl bl ba rfl [.int .i64 70,.slice none 0 0,.int .i64 0] rfl aZ uk.out (by kernel_rfl) rfl (by intro u hu;simp at hu;rcases hu with rfl|rfl|rfl<;>rfl) ?_;intro w6 hs6;have uu:=CM hs6;clear hs6 uk)
  refine bodyPost_ret (aR rfl _ _ rfl (bF rfl (aA (uu.out.sat.blk 0 rfl)))) rfl ?_
  rw [HE.out]
  exact⟨none,0,0,D,rfl,PH.le.refl _,RowsF.nil _,uu.out.drop.drop⟩
end Go.Proofs.YtdobimafhbfkhaaGreat
