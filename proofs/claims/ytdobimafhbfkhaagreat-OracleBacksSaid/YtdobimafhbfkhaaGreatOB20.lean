/- Joined texts: The tree: contract of through, at an inner node (printed by genthrough.py). The tree: contract of through, at an inner node (printed by genthrough.py). -/
import Derived.Test.YtdobimafhbfkhaaGreatOB19
set_option maxHeartbeats 64000000
namespace Go.Proofs.YtdobimafhbfkhaaGreat
open Go.ChangeShapes Go.WideShapes Go.ChangeAt Go.RowKit
set_option maxRecDepth 100000
set_option linter.unusedSimpArgs false
def NodeM.start (m:NodeM)(s:Spn):Nat:=if s.hasLo then bj m.keys s.lo else 0
def NodeM.past (m:NodeM)(s:Spn)(c:Nat):Bool:=s.hasHi&&decide (0<aj (m.keys.getD c default) s.hi)
theorem jh (keys:List Val)(k:Val):bj keys k≤keys.length:=by
 unfold bj
 cases h:dF keys k
 ·have h2:bg keys k≤keys.length:=(kI (gZ keys k) 0 keys.length (Nat.zero_le _)).2
  simpa using h2
 ·unfold dF at h
  simp only [Bool.and_eq_true,decide_eq_true_eq]at h
  have:=h.1
  simp
  omega
theorem pU (x:Int)(h1 : -9223372036854775808≤x)(h2:x≤9223372036854775807):IntKind.i64.wrap x=x:=IntWalk.i64_in _ (by omega)
theorem kz (m:NodeM)(s:Spn):m.start s≤m.keys.length:=by
 unfold NodeM.start
 split
 ·exact jh _ _
 ·omega
def tells (f:Nat→List (Val×VT))(n:Nat):List (Val×VT):=(List.range n).flatMap f
theorem aV (f:Nat→List (Val×VT))(n:Nat):tells f (n+1)=tells f n++f n:=by unfold tells;rw [List.range_succ,List.flatMap_append];simp
theorem da (f : Nat → List (Val × VT)) {a b : Nat} (h : a ≤ b) : tells f a <+: tells f b := by
  induction b with
  | zero => obtain rfl : a = 0 := by omega
            exact List.prefix_refl _
  | succ b ih =>
    by_cases e : a = b + 1
    · subst e; exact List.prefix_refl _
    · rw [aV]; exact (ih (by omega)).trans (List.prefix_append _ _)
theorem nj {n₀:Nat}{Ow:World→Nat→Prop}(hO:Owner n₀ Ow){D:PH}{t l i:Nat}{V:List (Val×VT)→Prop}{T:TM}{m:NodeM}{s:Spn}{J Jx:List (Val×VT)→World→Prop}
    (hJ:∀pre W W',J pre W→Kept (fun _=>False) W W'→J pre W')
    (hi:T.nodes[i]?=some m) (hl:m.leaf=false) (hkb:m.keys.length≤1000) (hdl:m.kids.length=m.keys.length+1) (hlo:s.hasLo=false)
    (n:Nat) (f:Nat→List (Val×VT)) (hn:m.start s+n≤m.kids.length) (hgo:∀j,j<n→0<j→m.past s (m.start s+j-1)=false) (hstop:m.start s+n=m.kids.length∨(0<n∧m.past s (m.start s+n-1)=true))
    (ih:∀j kid,j<n→m.kids[m.start s+j]?=some kid→∀(D:PH),TreeP D t T→∀(pre:List (Val×VT)) (W:World),J pre W→(∀p,p <+: pre++f j→V p)→ItOk n₀ Ow D W →
      Calls Tryz.prog 85 #[.pointer (some ⟨t,0,none⟩),.int .i64 kid,s.v,.func (.yield l) #[] #[]] W fun e W' =>
      (e = .returned (.bool true)∧J (pre++f j) W'∧ItOk n₀ Ow D W')∨(e = .returned (.bool false)∧∃q,q <+: f j∧Jx (pre++q) W'))
    (hT:TreeP D t T) (pre:List (Val×VT)) (W:World) (hj:J pre W) (hN:∀p,p <+: pre++tells f n→V p) (hit:ItOk n₀ Ow D W) :
    Calls Tryz.prog 85 #[.pointer (some ⟨t,0,none⟩),.int .i64 i,s.v,.func (.yield l) #[] #[]] W fun e W' =>
      (e = .returned (.bool true)∧J (pre++tells f n) W'∧ItOk n₀ Ow D W')∨(e = .returned (.bool false)∧∃q,q <+: tells f n∧Jx (pre++q) W'):=by
  have xR:=B5 hT
  obtain⟨nv,fv,ns,hns,hTS⟩:=hT
  obtain⟨⟨kv,vv,dv⟩,hp⟩:=aI hns hi
  have hlt:=(List.getElem?_eq_some_iff.1 hp).1
  obtain⟨l0,hs0⟩:=hTS W hit.le
  obtain⟨g,c,rfl,_,hcm⟩:=hs0.nv_some (by omega)
  unfold maxLen at hcm
  have hib:(i:Int)<(ns.length:Int):=by omega
  obtain⟨ko,kc,hkv⟩:=(hs0.focus hp).own_shape
  obtain⟨vo,vc,hvv⟩:=(hs0.focus hp).drop.own_shape
  obtain⟨dg,dc,hdv,hdc1,hdc2⟩:=aD (Sat.own (hs0.focus hp) 2 rfl) (by show 0<m.kids.length;omega)
  dsimp only at hkv hvv hdv hdc1
  subst hkv hvv hdv
  have hk1:Kept (fun _=>False) W (W.alloc (.cells s.cells tS)):=(Kept.refl _ _).alloc _
  have hb1:(W.alloc (.cells s.cells tS)).heap[W.heap.size]?=some (.cells s.cells tS (0,0)):=au W _
  have ud:=B5 (hit.new hO hk1 hb1 (Nat.le_refl _))
  have uf:=B5 (hit.with_le (.cells s.cells tS (0,0)) (Nat.le_refl _))
  have tK:=B5 hk1
  have tF:=B5 hb1
  have wB:=B5 hTS
  have HP:=B5 hp
  have HO:=B5 hO
  have xE:=B5 hN
  clear hN
  have HJ:=B5 hJ
  have vw:=B5 ih
  have wl:=B5 (hJ _ _ _ hj hk1)
  have HL:=B5 hl
  have wL:=B5 hlo
  have uk:=B5 hns
  have zk:=B5 hgo
  have uI:=B5 hstop
  have A6:=B5 hi
  clear hk1 hb1 hTS hp hit hO hJ ih hj hl hs0 hns hi hlo hgo hstop
  dsimp only [Spn.v]
  go_enter Tryz.func85,Tryz.ntmps85
  go_upto_region 1 with (fail)
  obtain⟨W1,hW1⟩:∃W1,W1=W.alloc (.cells s.cells tS):=⟨_,rfl⟩
  dsimp only [Spn.cells]at hW1
  rw [←hW1]
  dsimp only [Spn.cells]at ud uf tK tF wl
  rw [←hW1]at tK tF ud wl
  generalize hD1:D.with W.heap.size (.cells #[.bool s.no,.bool s.hasLo,.bool s.openLo,.bool s.lo.t,.int .i64 s.lo.n,.string s.lo.s,.bool s.hasHi,.bool s.openHi,.bool s.hi.t,.int .i64 s.hi.n,.string s.hi.s] tS (0,0))=D1 at ud uf
  have wm:=B5 (show D1 W.heap.size=some (.cells #[.bool s.no,.bool s.hasLo,.bool s.openLo,.bool s.lo.t,.int .i64 s.lo.n,.string s.lo.s,.bool s.hasHi,.bool s.openHi,.bool s.hi.t,.int .i64 s.hi.n,.string s.hi.s] tS (0,0)) by rw [←hD1];exact PH.with_self _ _ _)
  generalize W.heap.size=bs at tF wm ⊢
  clear hW1 hD1
  obtain⟨l1,hs1⟩:=wB.out W1 (uf.out.trans ud.out.le)
  obtain⟨t0,t1,t2,t3,t4,tf⟩:=hs1.tcells
  obtain⟨n0,n1,n2,n3,nf⟩:=hs1.node_cells HP.out
  dsimp only at n0 n1 n2 n3
  rw [HL.out]at n0
  have hb3:=((Sat.start W1).alloc #[.bool false,.slice ko m.keys.length kc,.slice vo m.vals.length vc,.slice (some ⟨dg,0,none⟩) m.kids.length dc] tN)
  have uy:=B5 hb3
  have xS:=B5 hdl
  clear hs1 hb3 hdl
  go_upto_region 2 with (fail)
  obtain⟨W2,hW2,hs2⟩:=uy.out.hide
  rw [←hW2]
  have hk2:Kept (fun _=>False) W1 W2:=hs2.drop.end_ (PH.le.refl _)
  have hb2:=hs2.blk 0 rfl
  have vd:=B5 (ud.out.new HO.out hk2 hb2 (Nat.le_refl _))
  have ue:=B5 (uf.out.trans (ud.out.with_le (.cells #[.bool false,.slice ko m.keys.length kc,.slice vo m.vals.length vc,.slice (some ⟨dg,0,none⟩) m.kids.length dc] tN (0,0)) (Nat.le_refl _)))
  have zg:=B5 (HJ.out _ _ _ wl.out hk2)
  generalize hD2:D1.with W1.heap.size (.cells #[.bool false,.slice ko m.keys.length kc,.slice vo m.vals.length vc,.slice (some ⟨dg,0,none⟩) m.kids.length dc] tN (0,0))=D2 at vd ue
  have v4:=B5 (show D2 bs=some (.cells #[.bool s.no,.bool s.hasLo,.bool s.openLo,.bool s.lo.t,.int .i64 s.lo.n,.string s.lo.s,.bool s.hasHi,.bool s.openHi,.bool s.hi.t,.int .i64 s.hi.n,.string s.hi.s] tS (0,0)) by
    rw [←hD2]
    exact ud.out.with_le _ (Nat.le_refl _) _ _ wm.out)
  have vm:=B5 (show D2 W1.heap.size=some (.cells #[.bool false,.slice ko m.keys.length kc,.slice vo m.vals.length vc,.slice (some ⟨dg,0,none⟩) m.kids.length dc] tN (0,0)) by rw [←hD2];exact PH.with_self _ _ _)
  clear hD2
  generalize W1.heap.size=bn at vm ⊢
  clear hW2 hs2 hk2 hb2 uy tF ud uf wl wm tK t0 t1 t2 t3 t4 tf n0 n1 n2 n3 nf
  obtain⟨N0,hN0⟩:∃N0,m.keys.length=N0:=⟨_,rfl⟩
  obtain⟨M0,hM0⟩:∃M0,m.kids.length=M0:=⟨_,rfl⟩
  obtain⟨A,hA⟩:∃A,m.start s=A:=⟨_,rfl⟩
  have hAle:=kz m s
  have hMN:M0=N0+1:=by rw [←hM0,←hN0];exact xS.out
  have vP:=B5 hN0
  have yh:=B5 hM0
  have HA:=B5 hA
  have Ar:=B5 hMN
  obtain⟨s0,s1,s2,s3,s4,s5,s6,s7,s8,s9,s10⟩:=Spn.at (s:=s) (vd.out.le _ _ v4.out)
  obtain⟨m0,m1,m2,m3,mf⟩:=fH (vd.out.le _ _ vm.out)
  rw [hN0]at HP vm hkb m1 hAle
  rw [hM0]at HP vm m3 hn hdc1 uI
  rw [hA]at hn hAle zk uI vw
  rw [wL.out]at s1
  have hAM:A≤M0:=by omega
  have hAMi:(A:Int)≤(M0:Int):=by omega
  have hMci:(M0:Int)≤(dc:Int):=by omega
  have hne:¬(dc=A):=by omega
  clear hN0 hM0 hA hMN
  obtain rfl:A=0:=by rw [←HA.out];unfold NodeM.start;rw [wL.out];rfl
  have vu:=vd
  have xQ:=zg
  go_upto_region 13 with (fail)
  clear s0 s1 s2 s3 s4 s5 s6 s7 s8 s9 s10 m0 m1 m2 m3 mf
  generalize W2=w3 at vu xQ ⊢
  obtain⟨m0,m1,m2,m3,mf⟩:=fH (vu.out.le _ _ vm.out)
  go_wp2_with fail
  clear m0 m1 m2 m3 mf
  go_loopw [60] (fun idx wr=>∃j:Nat,idx = .int .i64 j∧j≤n∧J (pre++tells f j) wr∧ItOk n₀ Ow D2 wr) (fun idx _=>n+1-(intOf idx).toNat)
  case atStart=>exact⟨0,rfl,Nat.zero_le _,by simpa [tells]using xQ.out,vu.out⟩
  case round =>
    obtain⟨j,rfl,hjn,hj,hit⟩:=hrel
    by_cases hjM:j<M0
    · obtain⟨kid,hkid⟩:∃kid,m.kids[j]?=some kid:=⟨m.kids[j]'(by rw [yh.out];exact hjM),List.getElem?_eq_getElem _⟩
      have uU:=B5 hkid
      obtain⟨lr,hsr⟩:=wB.out wr (ue.out.trans hit.le)
      have hrd:=hsr.kids_rd HP.out
      dsimp only at hrd
      have yi:=B5 (xR.out.mono ue.out)
      have hcell:=bu (by rw [yh.out]at hrd;rw [yh.out];exact hrd) hkid
      have hjMi:(j:Int)<((M0-0:Nat):Int):=by omega
      have hw1:IntKind.i64.wrap ((j:Int))=(j:Int):=pU _ (by omega) (by omega)
      have hw2:IntKind.i64.wrap ((j:Int)-1)=(j:Int)-1:=pU _ (by omega) (by omega)
      obtain⟨s0,s1,s2,s3,s4,s5,s6,s7,s8,s9,s10⟩:=Spn.at (s:=s) (hit.le _ _ v4.out)
      obtain⟨m0,m1,m2,m3,mf⟩:=fH (hit.le _ _ vm.out)
      have yj:=B5 hj
      have xG:=B5 hit
      clear hsr hrd hj hit hkid
      go_upto_region 17 with (fail)
      rcases Nat.eq_zero_or_pos j with hj0|hj0
      · have hjz:¬((j:Int) > 0):=by omega
        have hjz2:¬(0<j):=by omega
        have hjn2:j<n:=by rcases uI.out with h|⟨h1,_⟩<;>omega
        have wC:=B5 (HJ.out _ _ _ yj.out ((Kept.refl _ wr).drew))
        have vp:=B5 (xG.out.kept HO.out ((Kept.refl _ wr).drew))
        clear hj0
        refine af [(0,false,14),(1,false,14),(2,false,14),(3,false,14),(4,false,14),(5,false,14),(6,false,14),(7,false,14),(8,false,14),(9,false,14),(10,false,14),(11,false,14),(12,false,14),(13,false,14),(14,true,0),(15,false,999),(16,false,999)] (by kernel_rfl) (by kernel_rfl) ?_
        iterate 3 (refine ae rfl rfl (fun K hK=>?_);go_simp;refine hK _ ?_;clear hK K)
        iterate 2 (first|(refine aw rfl rfl ?_;simp only [Act.put,B6,B7,B8,B9,Ca,Cb])|(refine am rfl rfl (fun K hK=>?_);go_simp;refine hK _ ?_;clear hK K))
        iterate 2 (refine ae rfl rfl (fun K hK=>?_);go_simp;refine hK _ ?_;clear hK K)
        iterate 7 (first|(refine aw rfl rfl ?_;simp only [Act.put,B6,B7,B8,B9,Ca,Cb])|(refine am rfl rfl (fun K hK=>?_);go_simp;refine hK _ ?_;clear hK K))
        refine ah rfl ?_
        refine bV rfl ?_
        simp only [Act.put,B6,B7,B8]
        refine wpList_nil ?_
        refine And.intro ?_ ?_
        · go_simp
        first|(refine aw rfl rfl ?_;simp only [Act.put,B6,B7,B8,B9,Ca,Cb])|(refine am rfl rfl (fun K hK=>?_);go_simp;refine hK _ ?_;clear hK K)
        refine ae rfl rfl (fun K hK=>?_);go_simp;refine hK _ ?_;clear hK K
        refine ai ?_
        clear s0 s1 s2 s3 s4 s5 s6 s7 s8 s9 s10 m0 m1 m2 m3 mf hcell
        have hlen:∀p,p <+: pre++tells f j++f j→V p:=fun p hp=>xE.out p (hp.trans (by rw [List.append_assoc,←aV];exact(List.prefix_append_right_inj pre).2 (da f (by omega))))
        have IHJ:=B5 (vw.out j kid hjn2 (by first|exact uU.out|(rw [Nat.zero_add];exact uU.out)) D2 yi.out _ _ wC.out hlen vp.out)
        clear hlen
        obtain⟨s0,s1,s2,s3,s4,s5,s6,s7,s8,s9,s10⟩:=Spn.at (s:=s) (vp.out.le _ _ v4.out)
        go_wp2_with ((go_at_call 85;refine IHJ.out.mono ?_;clear IHJ;rintro e7 w7 (⟨rfl,hJ7,hI7⟩|⟨rfl,q7,hq7,hx7⟩)))
        · first
          | exact⟨⟨j+1,by go_num,by omega,by rw [aV,←List.append_assoc];exact hJ7,hI7⟩,by simp [intOf];omega⟩
          | skip
            refine⟨?_,?measure⟩
            · iterate 37 apply Exists.intro
              exact⟨⟨j+1,by go_num,by omega,by rw [aV,←List.append_assoc];exact hJ7,hI7⟩,rfl⟩
            case measure=>simp [intOf];omega
        · go_ret
          refine .inr ⟨rfl,tells f j++q7,?_,by rw [←List.append_assoc];exact hx7⟩
          have e1:=da f (show j+1≤n by omega)
          rw [aV]at e1
          exact((List.prefix_append_right_inj _).2 hq7).trans e1
      · have hjp:(j:Int) > 0:=by omega
        rcases (show s.hasHi=false∨s.hasHi=true by cases s.hasHi<;>simp)with hh|hh
        · rw [hh]at s6
          have hjn2:j<n:=by
            rcases uI.out with h|⟨h1,h2⟩
            · omega
            · simp [NodeM.past,hh]at h2
          have wC:=B5 (HJ.out _ _ _ yj.out ((Kept.refl _ wr).drew))
          have vp:=B5 (xG.out.kept HO.out ((Kept.refl _ wr).drew))
          have HH:=B5 hh
          clear hh
          refine af [(0,false,14),(1,false,14),(2,false,14),(3,false,14),(4,false,14),(5,false,14),(6,false,14),(7,false,14),(8,false,14),(9,false,14),(10,false,14),(11,false,14),(12,false,14),(13,false,14),(14,true,0),(15,false,999),(16,false,999)] (by kernel_rfl) (by kernel_rfl) ?_
          iterate 3 (refine ae rfl rfl (fun K hK=>?_);go_simp;refine hK _ ?_;clear hK K)
          iterate 2 (first|(refine aw rfl rfl ?_;simp only [Act.put,B6,B7,B8,B9,Ca,Cb])|(refine am rfl rfl (fun K hK=>?_);go_simp;refine hK _ ?_;clear hK K))
          iterate 2 (refine ae rfl rfl (fun K hK=>?_);go_simp;refine hK _ ?_;clear hK K)
          iterate 7 (first|(refine aw rfl rfl ?_;simp only [Act.put,B6,B7,B8,B9,Ca,Cb])|(refine am rfl rfl (fun K hK=>?_);go_simp;refine hK _ ?_;clear hK K))
          refine ah rfl ?_
          refine bV rfl ?_
          simp only [Act.put,B6,B7,B8]
          refine wpList_nil ?_
          refine And.intro ?_ ?_
          · go_simp
          first|(refine aw rfl rfl ?_;simp only [Act.put,B6,B7,B8,B9,Ca,Cb])|(refine am rfl rfl (fun K hK=>?_);go_simp;refine hK _ ?_;clear hK K)
          refine ae rfl rfl (fun K hK=>?_);go_simp;refine hK _ ?_;clear hK K
          refine ai ?_
          clear s0 s1 s2 s3 s4 s5 s6 s7 s8 s9 s10 m0 m1 m2 m3 mf hcell
          have hlen:∀p,p <+: pre++tells f j++f j→V p:=fun p hp=>xE.out p (hp.trans (by rw [List.append_assoc,←aV];exact(List.prefix_append_right_inj pre).2 (da f (by omega))))
          have IHJ:=B5 (vw.out j kid hjn2 (by first|exact uU.out|(rw [Nat.zero_add];exact uU.out)) D2 yi.out _ _ wC.out hlen vp.out)
          clear hlen
          obtain⟨s0,s1,s2,s3,s4,s5,s6,s7,s8,s9,s10⟩:=Spn.at (s:=s) (vp.out.le _ _ v4.out)
          go_wp2_with ((go_at_call 85;refine IHJ.out.mono ?_;clear IHJ;rintro e7 w7 (⟨rfl,hJ7,hI7⟩|⟨rfl,q7,hq7,hx7⟩)))
          · first
            | exact⟨⟨j+1,by go_num,by omega,by rw [aV,←List.append_assoc];exact hJ7,hI7⟩,by simp [intOf];omega⟩
            | skip
              refine⟨?_,?measure⟩
              · iterate 37 apply Exists.intro
                exact⟨⟨j+1,by go_num,by omega,by rw [aV,←List.append_assoc];exact hJ7,hI7⟩,rfl⟩
              case measure=>simp [intOf];omega
          · go_ret
            refine .inr ⟨rfl,tells f j++q7,?_,by rw [←List.append_assoc];exact hx7⟩
            have e1:=da f (show j+1≤n by omega)
            rw [aV]at e1
            exact((List.prefix_append_right_inj _).2 hq7).trans e1
        · rw [hh]at s6
          obtain⟨q,hq⟩:∃q,j=q+1:=⟨j-1,by omega⟩
          have hqi:(j:Int)-1=(q:Int):=by omega
          have hmn:=Ar.out
          have hqN:q<N0:=by omega
          obtain⟨x,hx⟩:∃x,m.keys[q]?=some x:=⟨m.keys[q]'(by rw [vP.out];exact hqN),List.getElem?_eq_getElem _⟩
          have hpast:m.past s (0+j-1)=decide (0<aj x s.hi):=by
            unfold NodeM.past
            rw [hh,show 0+j-1=q by omega,List.getD_eq_getElem?_getD,hx]
            rfl
          have u6:=B5 hpast
          obtain⟨lr2,hsr⟩:=wB.out wr (ue.out.trans xG.out.le)
          have hrk:=hsr.keys_rd HP.out
          dsimp only at hrk
          rw [vP.out]at hrk
          obtain⟨kg,rfl⟩:∃kg,ko=some ⟨kg,0,none⟩:=by
            obtain⟨g2,c2,h2,_⟩:=aD (Sat.own (hsr.focus HP.out) 0 rfl) (by show 0<m.keys.length;rw [vP.out];omega)
            dsimp only at h2
            rw [Value.slice.injEq]at h2
            exact⟨g2,h2.1⟩
          obtain⟨y0,y1,y2⟩:=aN hrk hx
          simp only [Nat.zero_add]at y0 y1 y2
          have hqNi:(q:Int)<(N0:Int):=by omega
          have HH:=B5 hh
          have HQ:=B5 hq
          rw [hqi]
          clear hh hsr hrk hpast hqi hmn hw2 hw1 hx hq
          refine af [(0,false,14),(1,false,14),(2,false,14),(3,false,14),(4,false,14),(5,false,14),(6,false,14),(7,false,14),(8,false,14),(9,false,14),(10,false,14),(11,false,14),(12,false,14),(13,false,14),(14,true,0),(15,false,999),(16,false,999)] (by kernel_rfl) (by kernel_rfl) ?_
          iterate 3 (refine ae rfl rfl (fun K hK=>?_);go_simp;refine hK _ ?_;clear hK K)
          iterate 2 (first|(refine aw rfl rfl ?_;simp only [Act.put,B6,B7,B8,B9,Ca,Cb])|(refine am rfl rfl (fun K hK=>?_);go_simp;refine hK _ ?_;clear hK K))
          iterate 2 (refine ae rfl rfl (fun K hK=>?_);go_simp;refine hK _ ?_;clear hK K)
          iterate 7 (first|(refine aw rfl rfl ?_;simp only [Act.put,B6,B7,B8,B9,Ca,Cb])|(refine am rfl rfl (fun K hK=>?_);go_simp;refine hK _ ?_;clear hK K))
          refine ah rfl ?_
          refine aq rfl (fun K hK=>?_)
          go_simp
          refine(bO x s.hi _).mono ?_
          rintro e6 w6 ⟨rfl,hk6⟩
          have hk6':Kept (fun _=>False) wr w6:=((Kept.refl _ _).drew).trans hk6 (fun _ h=>h.elim)
          have wC:=B5 (HJ.out _ _ _ yj.out hk6')
          have vp:=B5 (xG.out.kept HO.out hk6')
          clear hk6 hk6' s0 s1 s2 s3 s4 s5 s6 s7 s8 s9 s10 m0 m1 m2 m3 mf hcell y0 y1 y2
          generalize aj x s.hi=cc at u6 ⊢
          refine hK _ _ ?_
          clear hK K
          refine wpList_nil ?_
          refine And.intro ?_ ?_
          · go_simp
          first|(refine aw rfl rfl ?_;simp only [Act.put,B6,B7,B8,B9,Ca,Cb])|(refine am rfl rfl (fun K hK=>?_);go_simp;refine hK _ ?_;clear hK K)
          refine ae rfl rfl (fun K hK=>?_);go_simp;refine hK _ ?_;clear hK K
          refine ai ?_
          by_cases hcc:cc > 0
          · have hjn2:j=n:=by
              rcases Nat.lt_or_ge j n with h|h
              · have h1:=zk.out j h (by omega)
                rw [u6.out]at h1
                simp at h1
                omega
              · omega
            subst hjn2
            go_wp2_with fail
            go_ret
            exact .inl ⟨rfl,wC.out,vp.out.less ue.out⟩
          · have hjn2:j<n:=by
              rcases Nat.lt_or_ge j n with h|h
              · exact h
              · obtain rfl:j=n:=by omega
                rcases uI.out with h1|⟨_,h2⟩
                · omega
                · rw [u6.out]at h2
                  simp at h2
                  omega
            have hlen:∀p,p <+: pre++tells f j++f j→V p:=fun p hp=>xE.out p (hp.trans (by rw [List.append_assoc,←aV];exact(List.prefix_append_right_inj pre).2 (da f (by omega))))
            have IHJ:=B5 (vw.out j kid hjn2 (by first|exact uU.out|(rw [Nat.zero_add];exact uU.out)) D2 yi.out _ _ wC.out hlen vp.out)
            clear hlen
            obtain⟨s0,s1,s2,s3,s4,s5,s6,s7,s8,s9,s10⟩:=Spn.at (s:=s) (vp.out.le _ _ v4.out)
            go_wp2_with ((go_at_call 85;refine IHJ.out.mono ?_;clear IHJ;rintro e7 w7 (⟨rfl,hJ7,hI7⟩|⟨rfl,q7,hq7,hx7⟩)))
            · first
              | exact⟨⟨j+1,by go_num,by omega,by rw [aV,←List.append_assoc];exact hJ7,hI7⟩,by simp [intOf];omega⟩
              | skip
                refine⟨?_,?measure⟩
                · iterate 37 apply Exists.intro
                  exact⟨⟨j+1,by go_num,by omega,by rw [aV,←List.append_assoc];exact hJ7,hI7⟩,rfl⟩
                case measure=>simp [intOf];omega
            · go_ret
              refine .inr ⟨rfl,tells f j++q7,?_,by rw [←List.append_assoc];exact hx7⟩
              have e1:=da f (show j+1≤n by omega)
              rw [aV]at e1
              exact((List.prefix_append_right_inj _).2 hq7).trans e1
    · have hjn2:j=n:=by omega
      subst hjn2
      have zi:=B5 hj
      have zj:=B5 hit
      have hjMi:¬(j:Int)<((M0-0:Nat):Int):=by omega
      clear hj hit
      go_wp2_with fail
      go_ret
      exact .inl ⟨rfl,zi.out,zj.out.less ue.out⟩
theorem o9 {n₀:Nat}{Ow:World→Nat→Prop}(hO:Owner n₀ Ow){D:PH}{t l i:Nat}{V:List (Val×VT)→Prop}{T:TM}{m:NodeM}{s:Spn}{J Jx:List (Val×VT)→World→Prop}
    (hJ:∀pre W W',J pre W→Kept (fun _=>False) W W'→J pre W')
    (hi:T.nodes[i]?=some m) (hl:m.leaf=false) (hkb:m.keys.length≤1000) (hdl:m.kids.length=m.keys.length+1) (hlo:s.hasLo=true)
    (n:Nat) (f:Nat→List (Val×VT)) (hn:m.start s+n≤m.kids.length) (hgo:∀j,j<n→0<j→m.past s (m.start s+j-1)=false) (hstop:m.start s+n=m.kids.length∨(0<n∧m.past s (m.start s+n-1)=true))
    (ih:∀j kid,j<n→m.kids[m.start s+j]?=some kid→∀(D:PH),TreeP D t T→∀(pre:List (Val×VT)) (W:World),J pre W→(∀p,p <+: pre++f j→V p)→ItOk n₀ Ow D W →
      Calls Tryz.prog 85 #[.pointer (some ⟨t,0,none⟩),.int .i64 kid,s.v,.func (.yield l) #[] #[]] W fun e W' =>
      (e = .returned (.bool true)∧J (pre++f j) W'∧ItOk n₀ Ow D W')∨(e = .returned (.bool false)∧∃q,q <+: f j∧Jx (pre++q) W'))
    (hT:TreeP D t T) (pre:List (Val×VT)) (W:World) (hj:J pre W) (hN:∀p,p <+: pre++tells f n→V p) (hit:ItOk n₀ Ow D W) :
    Calls Tryz.prog 85 #[.pointer (some ⟨t,0,none⟩),.int .i64 i,s.v,.func (.yield l) #[] #[]] W fun e W' =>
      (e = .returned (.bool true)∧J (pre++tells f n) W'∧ItOk n₀ Ow D W')∨(e = .returned (.bool false)∧∃q,q <+: tells f n∧Jx (pre++q) W'):=by
  have xR:=B5 hT
  obtain⟨nv,fv,ns,hns,hTS⟩:=hT
  obtain⟨⟨kv,vv,dv⟩,hp⟩:=aI hns hi
  have hlt:=(List.getElem?_eq_some_iff.1 hp).1
  obtain⟨l0,hs0⟩:=hTS W hit.le
  obtain⟨g,c,rfl,_,hcm⟩:=hs0.nv_some (by omega)
  unfold maxLen at hcm
  have hib:(i:Int)<(ns.length:Int):=by omega
  obtain⟨ko,kc,hkv⟩:=(hs0.focus hp).own_shape
  obtain⟨vo,vc,hvv⟩:=(hs0.focus hp).drop.own_shape
  obtain⟨dg,dc,hdv,hdc1,hdc2⟩:=aD (Sat.own (hs0.focus hp) 2 rfl) (by show 0<m.kids.length;omega)
  dsimp only at hkv hvv hdv hdc1
  subst hkv hvv hdv
  have hk1:Kept (fun _=>False) W (W.alloc (.cells s.cells tS)):=(Kept.refl _ _).alloc _
  have hb1:(W.alloc (.cells s.cells tS)).heap[W.heap.size]?=some (.cells s.cells tS (0,0)):=au W _
  have ud:=B5 (hit.new hO hk1 hb1 (Nat.le_refl _))
  have uf:=B5 (hit.with_le (.cells s.cells tS (0,0)) (Nat.le_refl _))
  have tK:=B5 hk1
  have tF:=B5 hb1
  have wB:=B5 hTS
  have HP:=B5 hp
  have HO:=B5 hO
  have xE:=B5 hN
  clear hN
  have HJ:=B5 hJ
  have vw:=B5 ih
  have wl:=B5 (hJ _ _ _ hj hk1)
  have HL:=B5 hl
  have wL:=B5 hlo
  have uk:=B5 hns
  have zk:=B5 hgo
  have uI:=B5 hstop
  have A6:=B5 hi
  clear hk1 hb1 hTS hp hit hO hJ ih hj hl hs0 hns hi hlo hgo hstop
  dsimp only [Spn.v]
  go_enter Tryz.func85,Tryz.ntmps85
  go_upto_region 1 with (fail)
  obtain⟨W1,hW1⟩:∃W1,W1=W.alloc (.cells s.cells tS):=⟨_,rfl⟩
  dsimp only [Spn.cells]at hW1
  rw [←hW1]
  dsimp only [Spn.cells]at ud uf tK tF wl
  rw [←hW1]at tK tF ud wl
  generalize hD1:D.with W.heap.size (.cells #[.bool s.no,.bool s.hasLo,.bool s.openLo,.bool s.lo.t,.int .i64 s.lo.n,.string s.lo.s,.bool s.hasHi,.bool s.openHi,.bool s.hi.t,.int .i64 s.hi.n,.string s.hi.s] tS (0,0))=D1 at ud uf
  have wm:=B5 (show D1 W.heap.size=some (.cells #[.bool s.no,.bool s.hasLo,.bool s.openLo,.bool s.lo.t,.int .i64 s.lo.n,.string s.lo.s,.bool s.hasHi,.bool s.openHi,.bool s.hi.t,.int .i64 s.hi.n,.string s.hi.s] tS (0,0)) by rw [←hD1];exact PH.with_self _ _ _)
  generalize W.heap.size=bs at tF wm ⊢
  clear hW1 hD1
  obtain⟨l1,hs1⟩:=wB.out W1 (uf.out.trans ud.out.le)
  obtain⟨t0,t1,t2,t3,t4,tf⟩:=hs1.tcells
  obtain⟨n0,n1,n2,n3,nf⟩:=hs1.node_cells HP.out
  dsimp only at n0 n1 n2 n3
  rw [HL.out]at n0
  have hb3:=((Sat.start W1).alloc #[.bool false,.slice ko m.keys.length kc,.slice vo m.vals.length vc,.slice (some ⟨dg,0,none⟩) m.kids.length dc] tN)
  have uy:=B5 hb3
  have xS:=B5 hdl
  clear hs1 hb3 hdl
  go_upto_region 2 with (fail)
  obtain⟨W2,hW2,hs2⟩:=uy.out.hide
  rw [←hW2]
  have hk2:Kept (fun _=>False) W1 W2:=hs2.drop.end_ (PH.le.refl _)
  have hb2:=hs2.blk 0 rfl
  have vd:=B5 (ud.out.new HO.out hk2 hb2 (Nat.le_refl _))
  have ue:=B5 (uf.out.trans (ud.out.with_le (.cells #[.bool false,.slice ko m.keys.length kc,.slice vo m.vals.length vc,.slice (some ⟨dg,0,none⟩) m.kids.length dc] tN (0,0)) (Nat.le_refl _)))
  have zg:=B5 (HJ.out _ _ _ wl.out hk2)
  generalize hD2:D1.with W1.heap.size (.cells #[.bool false,.slice ko m.keys.length kc,.slice vo m.vals.length vc,.slice (some ⟨dg,0,none⟩) m.kids.length dc] tN (0,0))=D2 at vd ue
  have v4:=B5 (show D2 bs=some (.cells #[.bool s.no,.bool s.hasLo,.bool s.openLo,.bool s.lo.t,.int .i64 s.lo.n,.string s.lo.s,.bool s.hasHi,.bool s.openHi,.bool s.hi.t,.int .i64 s.hi.n,.string s.hi.s] tS (0,0)) by
    rw [←hD2]
    exact ud.out.with_le _ (Nat.le_refl _) _ _ wm.out)
  have vm:=B5 (show D2 W1.heap.size=some (.cells #[.bool false,.slice ko m.keys.length kc,.slice vo m.vals.length vc,.slice (some ⟨dg,0,none⟩) m.kids.length dc] tN (0,0)) by rw [←hD2];exact PH.with_self _ _ _)
  clear hD2
  generalize W1.heap.size=bn at vm ⊢
  clear hW2 hs2 hk2 hb2 uy tF ud uf wl wm tK t0 t1 t2 t3 t4 tf n0 n1 n2 n3 nf
  obtain⟨N0,hN0⟩:∃N0,m.keys.length=N0:=⟨_,rfl⟩
  obtain⟨M0,hM0⟩:∃M0,m.kids.length=M0:=⟨_,rfl⟩
  obtain⟨A,hA⟩:∃A,m.start s=A:=⟨_,rfl⟩
  have hAle:=kz m s
  have hMN:M0=N0+1:=by rw [←hM0,←hN0];exact xS.out
  have vP:=B5 hN0
  have yh:=B5 hM0
  have HA:=B5 hA
  have Ar:=B5 hMN
  obtain⟨s0,s1,s2,s3,s4,s5,s6,s7,s8,s9,s10⟩:=Spn.at (s:=s) (vd.out.le _ _ v4.out)
  obtain⟨m0,m1,m2,m3,mf⟩:=fH (vd.out.le _ _ vm.out)
  rw [hN0]at HP vm hkb m1 hAle
  rw [hM0]at HP vm m3 hn hdc1 uI
  rw [hA]at hn hAle zk uI vw
  rw [wL.out]at s1
  have hAM:A≤M0:=by omega
  have hAMi:(A:Int)≤(M0:Int):=by omega
  have hMci:(M0:Int)≤(dc:Int):=by omega
  have hne:¬(dc=A):=by omega
  clear hN0 hM0 hA hMN
  have yl:=B5 (iW (B:=W2) (D:=fun _=>none) s.lo A6.out (by rw [vP.out];omega) (l:=(wB.out W2 (ue.out.trans vd.out.le)).choose) ⟨_,_,_,uk.out,(wB.out W2 (ue.out.trans vd.out.le)).choose_spec⟩)
  have hbA:bj m.keys s.lo=A:=by rw [←HA.out];unfold NodeM.start;rw [wL.out];rfl
  rw [hbA]at yl
  clear hbA
  go_upto_region 13 with ((go_at_call 102;refine yl.out.mono ?_;rintro e3 w3 ⟨rfl,hk3⟩;have vu:=B5 (vd.out.kept HO.out hk3);have xQ:=B5 (HJ.out _ _ _ zg.out hk3);clear hk3 s0 s1 s2 s3 s4 s5 s6 s7 s8 s9 s10 m0 m1 m2 m3 mf yl))
  obtain⟨m0,m1,m2,m3,mf⟩:=fH (vu.out.le _ _ vm.out)
  go_wp2_with fail
  clear m0 m1 m2 m3 mf
  go_loopw [60] (fun idx wr=>∃j:Nat,idx = .int .i64 j∧j≤n∧J (pre++tells f j) wr∧ItOk n₀ Ow D2 wr) (fun idx _=>n+1-(intOf idx).toNat)
  case atStart=>exact⟨0,rfl,Nat.zero_le _,by simpa [tells]using xQ.out,vu.out⟩
  case round =>
    obtain⟨j,rfl,hjn,hj,hit⟩:=hrel
    by_cases hjM:A+j<M0
    · obtain⟨kid,hkid⟩:∃kid,m.kids[A+j]?=some kid:=⟨m.kids[A+j]'(by rw [yh.out];exact hjM),List.getElem?_eq_getElem _⟩
      have uU:=B5 hkid
      obtain⟨lr,hsr⟩:=wB.out wr (ue.out.trans hit.le)
      have hrd:=hsr.kids_rd HP.out
      dsimp only at hrd
      have yi:=B5 (xR.out.mono ue.out)
      have hcell:=bu (by rw [yh.out]at hrd;rw [yh.out];exact hrd) hkid
      have hjMi:(j:Int)<((M0-A:Nat):Int):=by omega
      have hw1:IntKind.i64.wrap ((A:Int)+(j:Int))=(A:Int)+(j:Int):=pU _ (by omega) (by omega)
      have hw2:IntKind.i64.wrap ((A:Int)+(j:Int)-1)=(A:Int)+(j:Int)-1:=pU _ (by omega) (by omega)
      obtain⟨s0,s1,s2,s3,s4,s5,s6,s7,s8,s9,s10⟩:=Spn.at (s:=s) (hit.le _ _ v4.out)
      obtain⟨m0,m1,m2,m3,mf⟩:=fH (hit.le _ _ vm.out)
      have yj:=B5 hj
      have xG:=B5 hit
      clear hsr hrd hj hit hkid
      go_upto_region 17 with (fail)
      rcases Nat.eq_zero_or_pos j with hj0|hj0
      · have hjz:¬((j:Int) > 0):=by omega
        have hjz2:¬(0<j):=by omega
        have hjn2:j<n:=by rcases uI.out with h|⟨h1,_⟩<;>omega
        have wC:=B5 (HJ.out _ _ _ yj.out ((Kept.refl _ wr).drew))
        have vp:=B5 (xG.out.kept HO.out ((Kept.refl _ wr).drew))
        clear hj0
        refine af [(0,false,14),(1,false,14),(2,false,14),(3,false,14),(4,false,14),(5,false,14),(6,false,14),(7,false,14),(8,false,14),(9,false,14),(10,false,14),(11,false,14),(12,false,14),(13,false,14),(14,true,0),(15,false,999),(16,false,999)] (by kernel_rfl) (by kernel_rfl) ?_
        iterate 3 (refine ae rfl rfl (fun K hK=>?_);go_simp;refine hK _ ?_;clear hK K)
        iterate 2 (first|(refine aw rfl rfl ?_;simp only [Act.put,B6,B7,B8,B9,Ca,Cb])|(refine am rfl rfl (fun K hK=>?_);go_simp;refine hK _ ?_;clear hK K))
        iterate 2 (refine ae rfl rfl (fun K hK=>?_);go_simp;refine hK _ ?_;clear hK K)
        iterate 7 (first|(refine aw rfl rfl ?_;simp only [Act.put,B6,B7,B8,B9,Ca,Cb])|(refine am rfl rfl (fun K hK=>?_);go_simp;refine hK _ ?_;clear hK K))
        refine ah rfl ?_
        refine bV rfl ?_
        simp only [Act.put,B6,B7,B8]
        refine wpList_nil ?_
        refine And.intro ?_ ?_
        · go_simp
        first|(refine aw rfl rfl ?_;simp only [Act.put,B6,B7,B8,B9,Ca,Cb])|(refine am rfl rfl (fun K hK=>?_);go_simp;refine hK _ ?_;clear hK K)
        refine ae rfl rfl (fun K hK=>?_);go_simp;refine hK _ ?_;clear hK K
        refine ai ?_
        clear s0 s1 s2 s3 s4 s5 s6 s7 s8 s9 s10 m0 m1 m2 m3 mf hcell
        have hlen:∀p,p <+: pre++tells f j++f j→V p:=fun p hp=>xE.out p (hp.trans (by rw [List.append_assoc,←aV];exact(List.prefix_append_right_inj pre).2 (da f (by omega))))
        have IHJ:=B5 (vw.out j kid hjn2 (by first|exact uU.out|(rw [Nat.zero_add];exact uU.out)) D2 yi.out _ _ wC.out hlen vp.out)
        clear hlen
        obtain⟨s0,s1,s2,s3,s4,s5,s6,s7,s8,s9,s10⟩:=Spn.at (s:=s) (vp.out.le _ _ v4.out)
        go_wp2_with ((go_at_call 85;refine IHJ.out.mono ?_;clear IHJ;rintro e7 w7 (⟨rfl,hJ7,hI7⟩|⟨rfl,q7,hq7,hx7⟩)))
        · first
          | exact⟨⟨j+1,by go_num,by omega,by rw [aV,←List.append_assoc];exact hJ7,hI7⟩,by simp [intOf];omega⟩
          | skip
            refine⟨?_,?measure⟩
            · iterate 37 apply Exists.intro
              exact⟨⟨j+1,by go_num,by omega,by rw [aV,←List.append_assoc];exact hJ7,hI7⟩,rfl⟩
            case measure=>simp [intOf];omega
        · go_ret
          refine .inr ⟨rfl,tells f j++q7,?_,by rw [←List.append_assoc];exact hx7⟩
          have e1:=da f (show j+1≤n by omega)
          rw [aV]at e1
          exact((List.prefix_append_right_inj _).2 hq7).trans e1
      · have hjp:(j:Int) > 0:=by omega
        rcases (show s.hasHi=false∨s.hasHi=true by cases s.hasHi<;>simp)with hh|hh
        · rw [hh]at s6
          have hjn2:j<n:=by
            rcases uI.out with h|⟨h1,h2⟩
            · omega
            · simp [NodeM.past,hh]at h2
          have wC:=B5 (HJ.out _ _ _ yj.out ((Kept.refl _ wr).drew))
          have vp:=B5 (xG.out.kept HO.out ((Kept.refl _ wr).drew))
          have HH:=B5 hh
          clear hh
          refine af [(0,false,14),(1,false,14),(2,false,14),(3,false,14),(4,false,14),(5,false,14),(6,false,14),(7,false,14),(8,false,14),(9,false,14),(10,false,14),(11,false,14),(12,false,14),(13,false,14),(14,true,0),(15,false,999),(16,false,999)] (by kernel_rfl) (by kernel_rfl) ?_
          iterate 3 (refine ae rfl rfl (fun K hK=>?_);go_simp;refine hK _ ?_;clear hK K)
          iterate 2 (first|(refine aw rfl rfl ?_;simp only [Act.put,B6,B7,B8,B9,Ca,Cb])|(refine am rfl rfl (fun K hK=>?_);go_simp;refine hK _ ?_;clear hK K))
          iterate 2 (refine ae rfl rfl (fun K hK=>?_);go_simp;refine hK _ ?_;clear hK K)
          iterate 7 (first|(refine aw rfl rfl ?_;simp only [Act.put,B6,B7,B8,B9,Ca,Cb])|(refine am rfl rfl (fun K hK=>?_);go_simp;refine hK _ ?_;clear hK K))
          refine ah rfl ?_
          refine bV rfl ?_
          simp only [Act.put,B6,B7,B8]
          refine wpList_nil ?_
          refine And.intro ?_ ?_
          · go_simp
          first|(refine aw rfl rfl ?_;simp only [Act.put,B6,B7,B8,B9,Ca,Cb])|(refine am rfl rfl (fun K hK=>?_);go_simp;refine hK _ ?_;clear hK K)
          refine ae rfl rfl (fun K hK=>?_);go_simp;refine hK _ ?_;clear hK K
          refine ai ?_
          clear s0 s1 s2 s3 s4 s5 s6 s7 s8 s9 s10 m0 m1 m2 m3 mf hcell
          have hlen:∀p,p <+: pre++tells f j++f j→V p:=fun p hp=>xE.out p (hp.trans (by rw [List.append_assoc,←aV];exact(List.prefix_append_right_inj pre).2 (da f (by omega))))
          have IHJ:=B5 (vw.out j kid hjn2 (by first|exact uU.out|(rw [Nat.zero_add];exact uU.out)) D2 yi.out _ _ wC.out hlen vp.out)
          clear hlen
          obtain⟨s0,s1,s2,s3,s4,s5,s6,s7,s8,s9,s10⟩:=Spn.at (s:=s) (vp.out.le _ _ v4.out)
          go_wp2_with ((go_at_call 85;refine IHJ.out.mono ?_;clear IHJ;rintro e7 w7 (⟨rfl,hJ7,hI7⟩|⟨rfl,q7,hq7,hx7⟩)))
          · first
            | exact⟨⟨j+1,by go_num,by omega,by rw [aV,←List.append_assoc];exact hJ7,hI7⟩,by simp [intOf];omega⟩
            | skip
              refine⟨?_,?measure⟩
              · iterate 37 apply Exists.intro
                exact⟨⟨j+1,by go_num,by omega,by rw [aV,←List.append_assoc];exact hJ7,hI7⟩,rfl⟩
              case measure=>simp [intOf];omega
          · go_ret
            refine .inr ⟨rfl,tells f j++q7,?_,by rw [←List.append_assoc];exact hx7⟩
            have e1:=da f (show j+1≤n by omega)
            rw [aV]at e1
            exact((List.prefix_append_right_inj _).2 hq7).trans e1
        · rw [hh]at s6
          obtain⟨q,hq⟩:∃q,A+j=q+1:=⟨A+j-1,by omega⟩
          have hqi:(A:Int)+(j:Int)-1=(q:Int):=by omega
          have hmn:=Ar.out
          have hqN:q<N0:=by omega
          obtain⟨x,hx⟩:∃x,m.keys[q]?=some x:=⟨m.keys[q]'(by rw [vP.out];exact hqN),List.getElem?_eq_getElem _⟩
          have hpast:m.past s (A+j-1)=decide (0<aj x s.hi):=by
            unfold NodeM.past
            rw [hh,show A+j-1=q by omega,List.getD_eq_getElem?_getD,hx]
            rfl
          have u6:=B5 hpast
          obtain⟨lr2,hsr⟩:=wB.out wr (ue.out.trans xG.out.le)
          have hrk:=hsr.keys_rd HP.out
          dsimp only at hrk
          rw [vP.out]at hrk
          obtain⟨kg,rfl⟩:∃kg,ko=some ⟨kg,0,none⟩:=by
            obtain⟨g2,c2,h2,_⟩:=aD (Sat.own (hsr.focus HP.out) 0 rfl) (by show 0<m.keys.length;rw [vP.out];omega)
            dsimp only at h2
            rw [Value.slice.injEq]at h2
            exact⟨g2,h2.1⟩
          obtain⟨y0,y1,y2⟩:=aN hrk hx
          simp only [Nat.zero_add]at y0 y1 y2
          have hqNi:(q:Int)<(N0:Int):=by omega
          have HH:=B5 hh
          have HQ:=B5 hq
          rw [hqi]
          clear hh hsr hrk hpast hqi hmn hw2 hw1 hx hq
          refine af [(0,false,14),(1,false,14),(2,false,14),(3,false,14),(4,false,14),(5,false,14),(6,false,14),(7,false,14),(8,false,14),(9,false,14),(10,false,14),(11,false,14),(12,false,14),(13,false,14),(14,true,0),(15,false,999),(16,false,999)] (by kernel_rfl) (by kernel_rfl) ?_
          iterate 3 (refine ae rfl rfl (fun K hK=>?_);go_simp;refine hK _ ?_;clear hK K)
          iterate 2 (first|(refine aw rfl rfl ?_;simp only [Act.put,B6,B7,B8,B9,Ca,Cb])|(refine am rfl rfl (fun K hK=>?_);go_simp;refine hK _ ?_;clear hK K))
          iterate 2 (refine ae rfl rfl (fun K hK=>?_);go_simp;refine hK _ ?_;clear hK K)
          iterate 7 (first|(refine aw rfl rfl ?_;simp only [Act.put,B6,B7,B8,B9,Ca,Cb])|(refine am rfl rfl (fun K hK=>?_);go_simp;refine hK _ ?_;clear hK K))
          refine ah rfl ?_
          refine aq rfl (fun K hK=>?_)
          go_simp
          refine(bO x s.hi _).mono ?_
          rintro e6 w6 ⟨rfl,hk6⟩
          have hk6':Kept (fun _=>False) wr w6:=((Kept.refl _ _).drew).trans hk6 (fun _ h=>h.elim)
          have wC:=B5 (HJ.out _ _ _ yj.out hk6')
          have vp:=B5 (xG.out.kept HO.out hk6')
          clear hk6 hk6' s0 s1 s2 s3 s4 s5 s6 s7 s8 s9 s10 m0 m1 m2 m3 mf hcell y0 y1 y2
          generalize aj x s.hi=cc at u6 ⊢
          refine hK _ _ ?_
          clear hK K
          refine wpList_nil ?_
          refine And.intro ?_ ?_
          · go_simp
          first|(refine aw rfl rfl ?_;simp only [Act.put,B6,B7,B8,B9,Ca,Cb])|(refine am rfl rfl (fun K hK=>?_);go_simp;refine hK _ ?_;clear hK K)
          refine ae rfl rfl (fun K hK=>?_);go_simp;refine hK _ ?_;clear hK K
          refine ai ?_
          by_cases hcc:cc > 0
          · have hjn2:j=n:=by
              rcases Nat.lt_or_ge j n with h|h
              · have h1:=zk.out j h (by omega)
                rw [u6.out]at h1
                simp at h1
                omega
              · omega
            subst hjn2
            go_wp2_with fail
            go_ret
            exact .inl ⟨rfl,wC.out,vp.out.less ue.out⟩
          · have hjn2:j<n:=by
              rcases Nat.lt_or_ge j n with h|h
              · exact h
              · obtain rfl:j=n:=by omega
                rcases uI.out with h1|⟨_,h2⟩
                · omega
                · rw [u6.out]at h2
                  simp at h2
                  omega
            have hlen:∀p,p <+: pre++tells f j++f j→V p:=fun p hp=>xE.out p (hp.trans (by rw [List.append_assoc,←aV];exact(List.prefix_append_right_inj pre).2 (da f (by omega))))
            have IHJ:=B5 (vw.out j kid hjn2 (by first|exact uU.out|(rw [Nat.zero_add];exact uU.out)) D2 yi.out _ _ wC.out hlen vp.out)
            clear hlen
            obtain⟨s0,s1,s2,s3,s4,s5,s6,s7,s8,s9,s10⟩:=Spn.at (s:=s) (vp.out.le _ _ v4.out)
            go_wp2_with ((go_at_call 85;refine IHJ.out.mono ?_;clear IHJ;rintro e7 w7 (⟨rfl,hJ7,hI7⟩|⟨rfl,q7,hq7,hx7⟩)))
            · first
              | exact⟨⟨j+1,by go_num,by omega,by rw [aV,←List.append_assoc];exact hJ7,hI7⟩,by simp [intOf];omega⟩
              | skip
                refine⟨?_,?measure⟩
                · iterate 37 apply Exists.intro
                  exact⟨⟨j+1,by go_num,by omega,by rw [aV,←List.append_assoc];exact hJ7,hI7⟩,rfl⟩
                case measure=>simp [intOf];omega
            · go_ret
              refine .inr ⟨rfl,tells f j++q7,?_,by rw [←List.append_assoc];exact hx7⟩
              have e1:=da f (show j+1≤n by omega)
              rw [aV]at e1
              exact((List.prefix_append_right_inj _).2 hq7).trans e1
    · have hjn2:j=n:=by omega
      subst hjn2
      have zi:=B5 hj
      have zj:=B5 hit
      have hjMi:¬(j:Int)<((M0-A:Nat):Int):=by omega
      clear hj hit
      go_wp2_with fail
      go_ret
      exact .inl ⟨rfl,zi.out,zj.out.less ue.out⟩
end Go.Proofs.YtdobimafhbfkhaaGreat
