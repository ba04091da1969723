/- An oracle is made (oracle.New). -/
import Derived.Test.YtdobimafhbfkhaaGreatOT44
set_option maxHeartbeats 64000000
namespace Go.Proofs.YtdobimafhbfkhaaGreat
open Go.ChangeShapes Go.WideShapes Go.ChangeAt Go.RowKit
set_option maxRecDepth 100000
set_option linter.unusedSimpArgs false
abbrev i9 : TypeId:=85
abbrev tPtrs : TypeId:=82
abbrev tBls : TypeId:=64
abbrev tBl : TypeId:=4
theorem infoTab : (Tryz.prog.info? aX).map (fun i=>(i.zero,i.size,i.bytes))=some (some (.agg #[.slice none 0 0]),1,24):=by kernel_rfl
theorem infoPtr : (Tryz.prog.info? i9).map (fun i=>(i.zero,i.size,i.bytes))=some (some (.pointer none),1,8):=by kernel_rfl
theorem infoBl : (Tryz.prog.info? tBl).map (fun i=>(i.zero,i.size,i.bytes))=some (some (.bool false),1,1):=by kernel_rfl
def tC (D:PH)(bo j:Nat)(tv pv:Value)(ts:List Nat)(hs:List Value):List HP:=[blk bo #[tv,pv] tOr,aF aX 1 tv j hs,aF i9 1 pv j (ts.map kB),be ((ts.zip (List.replicate j [])).map (dS D))]
theorem qY {B w:World}{D D' D0:PH}{bo j:Nat}{tv pv:Value}{ts:List Nat}{hs:List Value}{l:List HP}(le:PH.le D D')(h:Sat B D0 w (tC D bo j tv pv ts hs++l)):Sat B D0 w (tC D' bo j tv pv ts hs++l):=by
 have h1:=(h.front 3 rfl).weaken (A':=be ((ts.zip (List.replicate j [])).map (dS D'))) (fun h=>fj _ (fun _ _ _ h=>gP le _ h) h)
 exact h1.perm (List.perm_middle (l₁:=[blk bo #[tv,pv] tOr,aF aX 1 tv j hs,aF i9 1 pv j (ts.map kB)]) (a:=be ((ts.zip (List.replicate j [])).map (dS D'))) (l₂:=l)).symm
theorem rD {B w:World}{D:PH}{bo j b1 b2 t:Nat}{tv pv:Value}{ts:List Nat}{hs:List Value}{c1 c2:Array Value}{t1 t2:TypeId}{l:List HP}(hl:ts.length=j)(h:Sat B D w (blk bo #[tv,pv] tOr::aF i9 1 pv (j+1) ((ts ++ [t]).map kB)::blk b1 c1 t1::eQ D t []::aF aX 1 tv (j+1) hs::blk b2 c2 t2::be ((ts.zip (List.replicate j [])).map (dS D))::l)):Sat B D w (tC D bo (j+1) tv pv (ts ++ [t]) hs++l):=by
 have h1:=(h.front 2 rfl).drop
 have h2:Sat B D w (blk bo #[tv,pv] tOr::aF i9 1 pv (j+1) ((ts ++ [t]).map kB)::eQ D t []::aF aX 1 tv (j+1) hs::blk b2 c2 t2::be ((ts.zip (List.replicate j [])).map (dS D))::l):=h1
 have h3:=(h2.front 4 rfl).drop
 have h4:Sat B D w (blk bo #[tv,pv] tOr::aF i9 1 pv (j+1) ((ts ++ [t]).map kB)::eQ D t []::aF aX 1 tv (j+1) hs::be ((ts.zip (List.replicate j [])).map (dS D))::l):=h3
 have h5:=(h4.front 4 rfl).ungroup
 have h6:Sat B D w ((ts.zip (List.replicate j [])).map (dS D)++(blk bo #[tv,pv] tOr::aF i9 1 pv (j+1) ((ts ++ [t]).map kB)::eQ D t []::aF aX 1 tv (j+1) hs::l)):=h5
 have h7:=h6.perm ((ft _ 2 (eQ D t []) rfl).append_left _)
 have h8:Sat B D w (((ts.zip (List.replicate j [])).map (dS D) ++ [eQ D t []])++(blk bo #[tv,pv] tOr::aF i9 1 pv (j+1) ((ts ++ [t]).map kB)::aF aX 1 tv (j+1) hs::l)):=by
  rw [List.append_assoc]
  exact h7
 have h9:=h8.togroup
 have e:(ts.zip (List.replicate j [])).map (dS D) ++ [eQ D t []]=((ts ++ [t]).zip (List.replicate (j+1) [])).map (dS D):=by
  rw [List.replicate_succ',List.zip_append (by rw [List.length_replicate];exact hl),List.map_append]
  rfl
 rw [e]at h9
 exact((h9.front 2 rfl).front 3 rfl).front 3 rfl
def NewAns (B:World)(D:PH)(l:List HP)(cols:List (List Bool))(e:Ending)(w':World):Prop:=∃D',PH.le D D'∧if iM cols then ∃o,e = .returned (.pointer (some ⟨o,0,none⟩))∧Sat B D' w' (orP D' o (d6 cols)::l)else e = .returned (.pointer none)∧Sat B D' w' l
theorem mG {B w:World}{D:PH}{l:List HP}{v:Value}{cols:List (List Bool)}(ht:TblsAt D v cols)(h:Sat B D w l) :
  Calls Tryz.prog 14 #[v] w (NewAns B D l cols):=by
 obtain⟨us,hu1,hu2,hu3,hu4⟩:=ht
 obtain⟨ta,tc,rfl⟩:=hu3.shape
 by_cases hlen:1≤cols.length∧cols.length≤3
 ·obtain⟨hl1,hl2⟩:=hlen
  obtain⟨W1,hW1,h1⟩:∃W,W=w.alloc (.cells #[.slice none 0 0,.slice none 0 0] tOr)∧Sat B D W (blk w.heap.size #[.slice none 0 0,.slice none 0 0] tOr::l):=⟨_,rfl,h.alloc _ _⟩
  have ul:=CM hW1
  have uk:=CM (show Sat B D W1 (tC D w.heap.size 0 (.slice none 0 0) (.slice none 0 0) [] []++l)from by
   have h2:=((Sat.togroup (L:=[]) h1).own_nil i9 1).own_nil aX 1
   exact h2.front 3 rfl)
  have HU:=CM (And.intro hu1 (And.intro hu2 hu4))
  have xj:=CM hu3
  have HE:=CM (show iM cols=cols.all cu by unfold iM;rw [decide_eq_true hl1,decide_eq_true hl2];rfl)
  obtain⟨N,hN⟩:∃N,cols.length=N:=⟨_,rfl⟩
  rw [hN]at hl1 hl2 xj ⊢
  have HN:=CM hN
  have hb1:¬((N:Int)<1):=by omega
  have hb2:¬((3:Int)<(N:Int)):=by omega
  clear h h1 hW1 hu1 hu2 hu3 hu4 hN
  go_enter Tryz.func14,Tryz.ntmps14
  go_upto_region 4 with fail
  rw [←ul.out]
  clear ul
  generalize w.heap.size=bo at uk ⊢
  go_wp2_with fail
  go_loopw [19] (fun idx wr=>∃(j:Nat) (tv pv:Value) (ts:List Nat) (hs:List Value) (D2:PH),idx = .int .i64 j∧j≤N∧PH.le D D2∧ts.length=j∧hs.length=j∧(∀(i:Nat) (u:Value) (c:List Bool),hs[i]?=some u→cols[i]?=some c→RdP D2 1 u c.length (c.flatMap de))∧(cols.take j).all cu=true∧Sat B D2 wr (tC D2 bo j tv pv ts hs++l)) (fun idx _=>N-(intOf idx).toNat)
  case atStart=>exact⟨0,.slice none 0 0,.slice none 0 0,[],[],D,rfl,Nat.zero_le _,PH.le.refl _,rfl,rfl,(fun i u c h=>by simp at h),rfl,uk.out⟩
  case round =>
   obtain⟨j,tv,pv,ts,hs,D2,rfl,hj,hle,htl,hhl,hcs,hall,hsat⟩:=hrel
   have uF:=CM hle
   have zL:=CM htl
   have xl:=CM hhl
   have HCS:=CM hcs
   have uE:=CM hall
   have vk:=CM hsat
   clear hle htl hhl hcs hall hsat uk
   by_cases hlt:j<N
   ·obtain⟨c,hc⟩:∃c,cols[j]?=some c:=⟨cols[j]'(by rw [HN.out];exact hlt),List.getElem?_eq_getElem _⟩
    obtain⟨u,hu⟩:∃u,us[j]?=some u:=⟨us[j]'(by rw [HU.out.1,HN.out];exact hlt),List.getElem?_eq_getElem _⟩
    have hcol:RdP D2 1 u c.length (c.flatMap de):=(HU.out.2.2 j u c hu hc).mono uF.out
    obtain⟨ca,cc,rfl⟩:=hcol.shape
    obtain⟨tg,tof,rfl,htc⟩:∃tg tof,ta=some ⟨tg,tof,none⟩∧wr.cell? ⟨tg,tof+j,none⟩=some (.slice ca c.length cc):=by
     obtain⟨_,_,ao,cap,hv,_,_,_,hcell⟩:=(xj.out.mono uF.out).rd vk.out
     cases hv
     rcases hcell with h0|⟨g,og,hg,hcc⟩
     ·omega
     ·exact⟨g,og,hg,hcc j _ hu⟩
    have hji:(j:Int)<(N:Int):=by omega
    have HC:=CM hc
    have uU:=CM hcol
    have ur:=CM (vk.out.alloc #[.slice ca c.length cc] aX)
    clear hu hcol
    go_upto_region 7 with fail
    obtain⟨W2,hW2⟩:∃W,W=wr.alloc (.cells #[.slice ca c.length cc] aX):=⟨_,rfl⟩
    rw [←hW2]at ur ⊢
    clear hW2 htc vk
    generalize wr.heap.size=bt at ur ⊢
    obtain⟨b0,bf⟩:=aq (ur.out.blk 0 rfl)
    have vj:=CM (fp (uU.out.rd ur.out))
    cases hm:cu c with
    | false =>
     rw [show chk c=1 by unfold chk;rw [hm];rfl]at vj
     have wb:=CM (show iM cols=false by
      rw [HE.out,List.all_eq_false]
      exact⟨c,List.mem_of_getElem? hc,by rw [hm];decide⟩)
     clear hm hc
     go_wp2_with (go_at_call 31;refine vj.out.mono ?_;rintro e1 w1 ⟨rfl,hk1⟩;have ut:=CM (ur.out.kept hk1);clear hk1 vj ur b0 bf)
     refine bodyPost_ret (results_tmp rfl _ _ _) rfl ?_
     refine⟨D2,uF.out,?_⟩
     rw [wb.out]
     exact⟨rfl,ut.out.drop.drop.drop.drop.drop⟩
    | true =>
     rw [show chk c=0 by unfold chk;rw [hm];rfl]at vj
     have HM:=CM hm
     have wd:=CM (show cols.take (j+1)=cols.take j ++ [c] by rw [List.take_add_one,hc];rfl)
     clear hm hc
     go_upto_region 9 with (go_at_call 31;refine vj.out.mono ?_;rintro e1 w1 ⟨rfl,hk1⟩;have ut:=CM (ur.out.kept hk1);clear hk1 vj ur b0 bf)
     have uy:=CM (ut.out.own_fresh (e:=tBl) (size:=1) (n:=0) (cap:=0) (cs:=#[]) (xs:=[]) (Nat.le_refl _) (Nat.zero_le _) (Nat.zero_le _) (by simp) (by intro u hu;cases hu))
     obtain⟨b0,bf⟩:=aq (uy.out.blk 1 rfl)
     have hcl:c.length≤4:=by have:=HM.out;unfold cu at this;simp at this;omega
     have zK:=CM (uU.out.rd uy.out)
     obtain⟨i1,hi1,hz10,hz11,hz12⟩:=info_parts infoBl
     have uW:=CM (And.intro hi1 (And.intro hz10 (And.intro hz11 hz12)))
     clear hi1 hz10 hz11 hz12
     go_upto_region 10 with (at_builtin;refine aI _ rfl _ _ tBls rfl tBl i1 _ 1 1 Tryz.underlying64 uW.out.1 uW.out.2.1 uW.out.2.2.1 uW.out.2.2.2 rfl _ 0 [] rfl uy.out _ c.length (c.flatMap de) rfl zK.out (by intro u hu;obtain⟨x,_,hx⟩:=List.mem_flatMap.1 hu;simp [de]at hx;subst hx;rfl) (by unfold maxLen;omega) (by omega) ?_;intro v5 w5 hs5 h15;obtain⟨oa,oc,rfl⟩:=hs5.own_shape;have uA:=CM hs5;clear hs5 h15 uy zK ut b0 bf)
     obtain⟨D3,hle3,hown,hs6⟩:=uA.out.own_give
     simp only [Nat.zero_add,List.nil_append]at hown
     have uX:=CM (uF.out.trans hle3)
     have xW:=CM hle3
     have Bz:=CM hown
     obtain⟨tva,tvc,hx1⟩:∃a c,tv = .slice a j c:=(hs6.drop.front 1 rfl).own_shape
     obtain⟨pva,pvc,hx2⟩:∃a c,pv = .slice a j c:=(hs6.drop.front 2 rfl).own_shape
     subst hx1
     subst hx2
     have uu:=CM (qY hle3 hs6.drop)
     clear hle3 hown hs6 uA
     obtain⟨c0,c1,cf⟩:=bE (uu.out.blk 0 rfl)
     obtain⟨i2,hi2,hz20,hz21,hz22⟩:=info_parts infoTab
     have vX:=CM (And.intro hi2 (And.intro hz20 (And.intro hz21 hz22)))
     clear hi2 hz20 hz21 hz22
     have vb:=CM (((uu.out.alloc #[.slice oa c.length oc] aX).front 2 rfl))
     have Az:=CM (cd (size:=1) (n:=1) (aw w5 (.cells #[.slice oa c.length oc] aX)) rfl (by unfold maxLen;omega))
     go_upto_region 11 with (at_builtin;go_loud (refine aI _ rfl _ _ tTabs rfl aX i2 _ 1 24 Tryz.underlying22 vX.out.1 vX.out.2.1 vX.out.2.2.1 vX.out.2.2.2 rfl _ j _ rfl vb.out _ 1 _ rfl Az.out (by intro u hu;simp at hu;subst hu;rfl) (by unfold maxLen;omega) (by omega) ?_);intro v8 w8 hs8 h18;obtain⟨ua,uc,rfl⟩:=hs8.own_shape;have vB:=CM hs8;clear hs8 h18 vb Az uu c0 c1 cf;obtain⟨c0,c1,cf⟩:=bE (vB.out.blk 2 rfl))
     have vt:=CM ((vB.out.front 2 rfl).set 0 (.slice ua (j+1) uc))
     obtain⟨W9,hW9⟩:∃W,W=w8.setCell ⟨bo,0,none⟩ (.slice ua (j+1) uc):=⟨_,rfl⟩
     rw [←hW9]at vt ⊢
     clear hW9 vB c0 c1 cf
     have uD:=CM (show Sat B D3 W9 (blk bo #[.slice ua (j+1) uc,.slice pva j pvc] tOr::aF aX 1 (.slice ua (j+1) uc) (j+1) (hs ++ [.slice oa c.length oc])::blk w5.heap.size #[.slice oa c.length oc] aX::aF i9 1 (.slice pva j pvc) j (ts.map kB)::be ((ts.zip (List.replicate j [])).map (dS D3))::l)from vt.out)
     clear vt
     obtain⟨c0,c1,cf⟩:=bE (uD.out.blk 0 rfl)
     have wS:=CM (New_ok uD.out.drew)
     refine af [(0,false,10),(1,false,7),(2,false,7),(3,false,7),(4,false,7),(5,true,0),(6,true,0),(7,true,0),(8,false,10),(9,false,10),(10,true,0)] (by kernel_rfl) (by kernel_rfl) ?_
     iterate 5 (refine ae rfl rfl (fun K hK=>?_);go_simp;refine hK _ ?_;clear hK K)
     refine ag rfl ?_
     refine au rfl (fun K hK=>?_)
     go_simp
     refine wS.out.mono ?_
     rintro e10 wA ⟨t,rfl,hta⟩
     have hsb:=hta.close
     have hsc:Sat B D3 wA (eQ D3 t []::_):=Sat.close_ex (TM.empty,([]:PL)) ⟨pm,by decide,by decide,.nil⟩ hsb
     have HSB:=CM hsc
     clear hta hsb hsc wS uD c0 c1 cf
     obtain⟨c0,c1,cf⟩:=bE (HSB.out.blk 1 rfl)
     refine hK _ _ ?_
     clear hK K
     refine wpList_nil ?_
     refine And.intro ?_ ?_
     ·go_simp
     refine ag rfl ?_
     have ve:=CM (HSB.out.alloc #[.pointer (some ⟨t,0,none⟩)] i9)
     have AA:=CM (cd (size:=1) (n:=1) (aw wA (.cells #[.pointer (some ⟨t,0,none⟩)] i9)) rfl (by unfold maxLen;omega))
     refine wpList_plain rfl (fun K hK=>?_)
     go_simp
     refine hK _ _ ?_
     clear hK K
     refine wpList_nil ?_
     clear c0 c1 cf
     obtain⟨c0,c1,cf⟩:=bE (ve.out.blk 2 rfl)
     have vz:=CM (ve.out.front 5 rfl)
     obtain⟨i3,hi3,hz30,hz31,hz32⟩:=info_parts infoPtr
     have wn:=CM (And.intro hi3 (And.intro hz30 (And.intro hz31 hz32)))
     clear hi3 hz30 hz31 hz32
     refine And.intro ?_ ?_
     ·go_simp
     refine ag rfl ?_
     refine aI _ rfl _ _ tPtrs rfl i9 i3 _ 1 8 Tryz.underlying82 wn.out.1 wn.out.2.1 wn.out.2.2.1 wn.out.2.2.2 rfl _ j _ rfl vz.out _ 1 _ rfl AA.out (by intro u hu;simp at hu;subst hu;rfl) (by unfold maxLen;omega) (by omega) ?_
     intro vE wE hsE h1E
     refine wpList_nil ?_
     obtain⟨qa,qc,rfl⟩:=hsE.own_shape
     have vT:=CM hsE
     clear hsE h1E ve vz AA HSB c0 c1 cf
     obtain⟨c0,c1,cf⟩:=bE (vT.out.blk 3 rfl)
     have AM:=CM ((vT.out.front 3 rfl).set 1 (.slice qa (j+1) qc))
     refine And.intro ?_ ?_
     ·go_simp
     iterate 2 (refine ae rfl rfl (fun K hK=>?_);go_simp;refine hK _ ?_;clear hK K)
     refine ag rfl ?_
     refine wpList_plain rfl (fun K hK=>?_)
     go_simp
     refine hK _ _ ?_
     clear hK K
     refine wpList_nil ?_
     refine And.intro ?_ ?_
     ·go_simp
     refine ah ?_
     have zM:=CM (rD (t:=t) zL.out (by rw [List.map_append];exact AM.out))
     clear c0 c1 cf AM vT
     go_wp2_with fail
     go_roundw
     case rel =>
      refine⟨j+1,_,_,ts ++ [t],hs ++ [.slice oa c.length oc],D3,by go_num,by omega,uX.out,by rw [List.length_append,zL.out];rfl,by rw [List.length_append,xl.out];rfl,fun i u c' hu hc'=>?_,?_,zM.out⟩
      ·by_cases hij:i<j
       ·rw [List.getElem?_append_left (by rw [xl.out];exact hij)]at hu
        exact(HCS.out i u c' hu hc').mono xW.out
       ·have hij2:i=j:=by have:=(List.getElem?_eq_some_iff.1 hu).1;rw [List.length_append,xl.out,List.length_singleton]at this;omega
        subst hij2
        rw [List.getElem?_append_right (by rw [xl.out];exact Nat.le_refl _),xl.out,Nat.sub_self]at hu
        cases hu
        rw [HC.out]at hc'
        cases hc'
        exact Bz.out
      ·rw [wd.out,List.all_append,uE.out]
       simp [HM.out]
     case measure=>simp [intOf];omega
   ·obtain rfl:j=N:=by omega
    have hji:¬((j:Int)<(j:Int)):=by omega
    have yw:=CM (show iM cols=true by have:=uE.out;rw [List.take_of_length_le (Nat.le_of_eq HN.out)]at this;rw [HE.out];exact this)
    have zM:=CM (show ∃D',PH.le D D'∧Sat B D' wr (orP D' bo (d6 cols)::l)from by
     obtain⟨D3,le3,h3,s3⟩:=(vk.out.front 1 rfl).own_give
     have s3':Sat B D3 wr (blk bo #[tv,pv] tOr::aF i9 1 pv j (ts.map kB)::be ((ts.zip (List.replicate j [])).map (dS D2))::l):=s3
     obtain⟨D4,le4,h4,s4⟩:=(s3'.front 1 rfl).own_give
     have s4':Sat B D4 wr (blk bo #[tv,pv] tOr::be ((ts.zip (List.replicate j [])).map (dS D2))::l):=s4
     have s5:Sat B D4 wr (blk bo #[tv,pv] tOr::be ((ts.zip (List.replicate j [])).map (dS D4))::l):=((Sat.swap s4').weaken (A':=be ((ts.zip (List.replicate j [])).map (dS D4))) (fun h=>fj _ (fun _ _ _ h=>gP (le3.trans le4) _ h) h)).swap
     refine⟨D4,(uF.out.trans le3).trans le4,qg (O:=d6 cols) (x:=⟨tv,pv,ts⟩) ⟨⟨hs,?_,?_,?_,fun i u c hu hc=>?_⟩,?_,?_,?_⟩ ?_⟩
     ·rw [xl.out];exact HN.out.symm
     ·obtain⟨h3a,_⟩:=h3
      intro u hu
      obtain⟨i,hi⟩:=List.mem_iff_getElem?.1 hu
      have hic:i<cols.length:=by have:=(List.getElem?_eq_some_iff.1 hi).1;rw [xl.out]at this;rw [HN.out];exact this
      exact(HCS.out i u cols[i] hi (List.getElem?_eq_getElem hic)).oneV
     ·show RdP D4 1 tv cols.length hs
      rw [HN.out];exact h3.mono le4
     ·exact(HCS.out i u c hu hc).mono (le3.trans le4)
     ·show RdP D4 1 pv ts.length (ts.map kB)
      rw [zL.out];exact h4
     ·show ts.length=(List.replicate cols.length ([]:ay)).length
      rw [List.length_replicate,zL.out,HN.out]
     ·show(List.replicate cols.length ([]:ay)).length=cols.length
      rw [List.length_replicate]
     ·show Sat B D4 wr (blk bo #[tv,pv] tOr::be ((ts.zip (List.replicate cols.length [])).map (dS D4))::l)
      rw [HN.out];exact s5)
    clear vk
    go_wp2_with fail
    refine bodyPost_ret (results_tmp rfl _ _ _) rfl ?_
    obtain⟨D',f1,f2⟩:=zM.out
    refine⟨D',f1,?_⟩
    rw [yw.out]
    exact⟨bo,rfl,f2⟩
 ·have wb:=CM (show iM cols=false by
   unfold iM
   cases hd:(decide (1≤cols.length)&&decide (cols.length≤3))
   ·rfl
   ·simp at hd;exact absurd hd hlen)
  have hor:(cols.length:Int)<1∨(¬((cols.length:Int)<1)∧(3:Int)<(cols.length:Int)):=by omega
  have HS:=CM h
  generalize cols.length=N at *
  clear h hu1 hu2 hu3 hu4 hlen
  rcases hor with hb|⟨hb,hb2⟩
  ·go_enter Tryz.func14,Tryz.ntmps14
   go_wp2_with fail
   refine bodyPost_ret (results_tmp rfl _ _ _) rfl ?_
   refine⟨D,PH.le.refl _,?_⟩
   rw [wb.out]
   exact⟨rfl,HS.out⟩
  ·go_enter Tryz.func14,Tryz.ntmps14
   go_wp2_with fail
   refine bodyPost_ret (results_tmp rfl _ _ _) rfl ?_
   refine⟨D,PH.le.refl _,?_⟩
   rw [wb.out]
   exact⟨rfl,HS.out⟩
end Go.Proofs.YtdobimafhbfkhaaGreat
