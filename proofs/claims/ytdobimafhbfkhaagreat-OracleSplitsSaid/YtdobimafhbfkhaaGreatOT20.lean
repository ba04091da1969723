/- Joined texts: The tree: contract of through, at an inner node (printed by genthrough.py). The tree: contract of through, at an inner node (printed by genthrough.py). -/
import Derived.Test.YtdobimafhbfkhaaGreatOT19
set_option maxHeartbeats 64000000
namespace Go.Proofs.YtdobimafhbfkhaaGreat
open Go.ChangeShapes Go.WideShapes Go.ChangeAt Go.RowKit
set_option maxRecDepth 100000
set_option linter.unusedSimpArgs false
def NodeM.start (m:NodeM)(s:Spn):Nat:=if s.hasLo then bD m.keys s.lo else 0
def NodeM.past (m:NodeM)(s:Spn)(c:Nat):Bool:=s.hasHi&&decide (0<ak (m.keys.getD c default) s.hi)
theorem jo (keys:List Val)(k:Val):bD keys k≤keys.length:=by
 unfold bD
 cases h:dI keys k
 ·have h2:bq keys k≤keys.length:=(kN (il keys k) 0 keys.length (Nat.zero_le _)).2
  simpa using h2
 ·unfold dI at h
  simp only [Bool.and_eq_true,decide_eq_true_eq]at h
  have:=h.1
  simp
  omega
theorem qz (x:Int)(h1 : -9223372036854775808≤x)(h2:x≤9223372036854775807):IntKind.i64.wrap x=x:=IntWalk.i64_in _ (by omega)
theorem kC (m:NodeM)(s:Spn):m.start s≤m.keys.length:=by
 unfold NodeM.start
 split
 ·exact jo _ _
 ·omega
def tells (f:Nat→List (Val×VT))(n:Nat):List (Val×VT):=(List.range n).flatMap f
theorem aW (f:Nat→List (Val×VT))(n:Nat):tells f (n+1)=tells f n++f n:=by unfold tells;rw [List.range_succ,List.flatMap_append];simp
theorem di (f : Nat → List (Val × VT)) {a b : Nat} (h : a ≤ b) : tells f a <+: tells f b := by
  induction b with
  | zero => obtain rfl : a = 0 := by omega
            exact List.prefix_refl _
  | succ b ih =>
    by_cases e : a = b + 1
    · subst e; exact List.prefix_refl _
    · rw [aW]; exact (ih (by omega)).trans (List.prefix_append _ _)
theorem nD {n₀:Nat}{Ow:World→Nat→Prop}(hO:Owner n₀ Ow){D:PH}{t l i:Nat}{V:List (Val×VT)→Prop}{T:TM}{m:NodeM}{s:Spn}{J Jx:List (Val×VT)→World→Prop}
    (hJ:∀pre W W',J pre W→Kept (fun _=>False) W W'→J pre W')
    (hi:T.nodes[i]?=some m) (hl:m.leaf=false) (hkb:m.keys.length≤1000) (hdl:m.kids.length=m.keys.length+1) (hlo:s.hasLo=false)
    (n:Nat) (f:Nat→List (Val×VT)) (hn:m.start s+n≤m.kids.length) (hgo:∀j,j<n→0<j→m.past s (m.start s+j-1)=false) (hstop:m.start s+n=m.kids.length∨(0<n∧m.past s (m.start s+n-1)=true))
    (ih:∀j kid,j<n→m.kids[m.start s+j]?=some kid→∀(D:PH),TreeP D t T→∀(pre:List (Val×VT)) (W:World),J pre W→(∀p,p <+: pre++f j→V p)→ItOk n₀ Ow D W →
      Calls Tryz.prog 85 #[.pointer (some ⟨t,0,none⟩),.int .i64 kid,s.v,.func (.yield l) #[] #[]] W fun e W' =>
      (e = .returned (.bool true)∧J (pre++f j) W'∧ItOk n₀ Ow D W')∨(e = .returned (.bool false)∧∃q,q <+: f j∧Jx (pre++q) W'))
    (hT:TreeP D t T) (pre:List (Val×VT)) (W:World) (hj:J pre W) (hN:∀p,p <+: pre++tells f n→V p) (hit:ItOk n₀ Ow D W) :
    Calls Tryz.prog 85 #[.pointer (some ⟨t,0,none⟩),.int .i64 i,s.v,.func (.yield l) #[] #[]] W fun e W' =>
      (e = .returned (.bool true)∧J (pre++tells f n) W'∧ItOk n₀ Ow D W')∨(e = .returned (.bool false)∧∃q,q <+: tells f n∧Jx (pre++q) W'):=by
  have yH:=CM hT
  obtain⟨nv,fv,ns,hns,hTS⟩:=hT
  obtain⟨⟨kv,vv,dv⟩,hp⟩:=aH hns hi
  have hlt:=(List.getElem?_eq_some_iff.1 hp).1
  obtain⟨l0,hs0⟩:=hTS W hit.le
  obtain⟨g,c,rfl,_,hcm⟩:=hs0.nv_some (by omega)
  unfold maxLen at hcm
  have hib:(i:Int)<(ns.length:Int):=by omega
  obtain⟨ko,kc,hkv⟩:=(hs0.focus hp).own_shape
  obtain⟨vo,vc,hvv⟩:=(hs0.focus hp).drop.own_shape
  obtain⟨dg,dc,hdv,hdc1,hdc2⟩:=aE (Sat.own (hs0.focus hp) 2 rfl) (by show 0<m.kids.length;omega)
  dsimp only at hkv hvv hdv hdc1
  subst hkv hvv hdv
  have hk1:Kept (fun _=>False) W (W.alloc (.cells s.cells tS)):=(Kept.refl _ _).alloc _
  have hb1:(W.alloc (.cells s.cells tS)).heap[W.heap.size]?=some (.cells s.cells tS (0,0)):=aw W _
  have uW:=CM (hit.new hO hk1 hb1 (Nat.le_refl _))
  have uP:=CM (hit.with_le (.cells s.cells tS (0,0)) (Nat.le_refl _))
  have uq:=CM hk1
  have um:=CM hb1
  have xq:=CM hTS
  have HP:=CM hp
  have HO:=CM hO
  have yu:=CM hN
  clear hN
  have HJ:=CM hJ
  have vY:=CM ih
  have xg:=CM (hJ _ _ _ hj hk1)
  have HL:=CM hl
  have xB:=CM hlo
  have uL:=CM hns
  have Ab:=CM hgo
  have vl:=CM hstop
  have BQ:=CM hi
  clear hk1 hb1 hTS hp hit hO hJ ih hj hl hs0 hns hi hlo hgo hstop
  dsimp only [Spn.v]
  go_enter Tryz.func85,Tryz.ntmps85
  go_upto_region 1 with (fail)
  obtain⟨W1,hW1⟩:∃W1,W1=W.alloc (.cells s.cells tS):=⟨_,rfl⟩
  dsimp only [Spn.cells]at hW1
  rw [←hW1]
  dsimp only [Spn.cells]at uW uP uq um xg
  rw [←hW1]at uq um uW xg
  generalize hD1:D.with W.heap.size (.cells #[.bool s.no,.bool s.hasLo,.bool s.openLo,.bool s.lo.t,.int .i64 s.lo.n,.string s.lo.s,.bool s.hasHi,.bool s.openHi,.bool s.hi.t,.int .i64 s.hi.n,.string s.hi.s] tS (0,0))=D1 at uW uP
  have xh:=CM (show D1 W.heap.size=some (.cells #[.bool s.no,.bool s.hasLo,.bool s.openLo,.bool s.lo.t,.int .i64 s.lo.n,.string s.lo.s,.bool s.hasHi,.bool s.openHi,.bool s.hi.t,.int .i64 s.hi.n,.string s.hi.s] tS (0,0)) by rw [←hD1];exact PH.with_self _ _ _)
  generalize W.heap.size=bs at um xh ⊢
  clear hW1 hD1
  obtain⟨l1,hs1⟩:=xq.out W1 (uP.out.trans uW.out.le)
  obtain⟨t0,t1,t2,t3,t4,tf⟩:=hs1.tcells
  obtain⟨n0,n1,n2,n3,nf⟩:=hs1.node_cells HP.out
  dsimp only at n0 n1 n2 n3
  rw [HL.out]at n0
  have hb3:=((Sat.start W1).alloc #[.bool false,.slice ko m.keys.length kc,.slice vo m.vals.length vc,.slice (some ⟨dg,0,none⟩) m.kids.length dc] tN)
  have HB3:=CM hb3
  have yI:=CM hdl
  clear hs1 hb3 hdl
  go_upto_region 2 with (fail)
  obtain⟨W2,hW2,hs2⟩:=HB3.out.hide
  rw [←hW2]
  have hk2:Kept (fun _=>False) W1 W2:=hs2.drop.end_ (PH.le.refl _)
  have hb2:=hs2.blk 0 rfl
  have vX:=CM (uW.out.new HO.out hk2 hb2 (Nat.le_refl _))
  have uQ:=CM (uP.out.trans (uW.out.with_le (.cells #[.bool false,.slice ko m.keys.length kc,.slice vo m.vals.length vc,.slice (some ⟨dg,0,none⟩) m.kids.length dc] tN (0,0)) (Nat.le_refl _)))
  have zX:=CM (HJ.out _ _ _ xg.out hk2)
  generalize hD2:D1.with W1.heap.size (.cells #[.bool false,.slice ko m.keys.length kc,.slice vo m.vals.length vc,.slice (some ⟨dg,0,none⟩) m.kids.length dc] tN (0,0))=D2 at vX uQ
  have wW:=CM (show D2 bs=some (.cells #[.bool s.no,.bool s.hasLo,.bool s.openLo,.bool s.lo.t,.int .i64 s.lo.n,.string s.lo.s,.bool s.hasHi,.bool s.openHi,.bool s.hi.t,.int .i64 s.hi.n,.string s.hi.s] tS (0,0)) by
    rw [←hD2]
    exact uW.out.with_le _ (Nat.le_refl _) _ _ xh.out)
  have wj:=CM (show D2 W1.heap.size=some (.cells #[.bool false,.slice ko m.keys.length kc,.slice vo m.vals.length vc,.slice (some ⟨dg,0,none⟩) m.kids.length dc] tN (0,0)) by rw [←hD2];exact PH.with_self _ _ _)
  clear hD2
  generalize W1.heap.size=bn at wj ⊢
  clear hW2 hs2 hk2 hb2 HB3 um uW uP xg xh uq t0 t1 t2 t3 t4 tf n0 n1 n2 n3 nf
  obtain⟨N0,hN0⟩:∃N0,m.keys.length=N0:=⟨_,rfl⟩
  obtain⟨M0,hM0⟩:∃M0,m.kids.length=M0:=⟨_,rfl⟩
  obtain⟨A,hA⟩:∃A,m.start s=A:=⟨_,rfl⟩
  have hAle:=kC m s
  have hMN:M0=N0+1:=by rw [←hM0,←hN0];exact yI.out
  have wL:=CM hN0
  have zc:=CM hM0
  have HA:=CM hA
  have A9:=CM hMN
  obtain⟨s0,s1,s2,s3,s4,s5,s6,s7,s8,s9,s10⟩:=Spn.at (s:=s) (vX.out.le _ _ wW.out)
  obtain⟨m0,m1,m2,m3,mf⟩:=fI (vX.out.le _ _ wj.out)
  rw [hN0]at HP wj hkb m1 hAle
  rw [hM0]at HP wj m3 hn hdc1 vl
  rw [hA]at hn hAle Ab vl vY
  rw [xB.out]at s1
  have hAM:A≤M0:=by omega
  have hAMi:(A:Int)≤(M0:Int):=by omega
  have hMci:(M0:Int)≤(dc:Int):=by omega
  have hne:¬(dc=A):=by omega
  clear hN0 hM0 hA hMN
  obtain rfl:A=0:=by rw [←HA.out];unfold NodeM.start;rw [xB.out];rfl
  have wn:=vX
  have yG:=zX
  go_upto_region 13 with (fail)
  clear s0 s1 s2 s3 s4 s5 s6 s7 s8 s9 s10 m0 m1 m2 m3 mf
  generalize W2=w3 at wn yG ⊢
  obtain⟨m0,m1,m2,m3,mf⟩:=fI (wn.out.le _ _ wj.out)
  go_wp2_with fail
  clear m0 m1 m2 m3 mf
  go_loopw [60] (fun idx wr=>∃j:Nat,idx = .int .i64 j∧j≤n∧J (pre++tells f j) wr∧ItOk n₀ Ow D2 wr) (fun idx _=>n+1-(intOf idx).toNat)
  case atStart=>exact⟨0,rfl,Nat.zero_le _,by simpa [tells]using yG.out,wn.out⟩
  case round =>
    obtain⟨j,rfl,hjn,hj,hit⟩:=hrel
    by_cases hjM:j<M0
    · obtain⟨kid,hkid⟩:∃kid,m.kids[j]?=some kid:=⟨m.kids[j]'(by rw [zc.out];exact hjM),List.getElem?_eq_getElem _⟩
      have vD:=CM hkid
      obtain⟨lr,hsr⟩:=xq.out wr (uQ.out.trans hit.le)
      have hrd:=hsr.kids_rd HP.out
      dsimp only at hrd
      have zd:=CM (yH.out.mono uQ.out)
      have hcell:=bI (by rw [zc.out]at hrd;rw [zc.out];exact hrd) hkid
      have hjMi:(j:Int)<((M0-0:Nat):Int):=by omega
      have hw1:IntKind.i64.wrap ((j:Int))=(j:Int):=qz _ (by omega) (by omega)
      have hw2:IntKind.i64.wrap ((j:Int)-1)=(j:Int)-1:=qz _ (by omega) (by omega)
      obtain⟨s0,s1,s2,s3,s4,s5,s6,s7,s8,s9,s10⟩:=Spn.at (s:=s) (hit.le _ _ wW.out)
      obtain⟨m0,m1,m2,m3,mf⟩:=fI (hit.le _ _ wj.out)
      have ze:=CM hj
      have yx:=CM hit
      clear hsr hrd hj hit hkid
      go_upto_region 17 with (fail)
      rcases Nat.eq_zero_or_pos j with hj0|hj0
      · have hjz:¬((j:Int) > 0):=by omega
        have hjz2:¬(0<j):=by omega
        have hjn2:j<n:=by rcases vl.out with h|⟨h1,_⟩<;>omega
        have xr:=CM (HJ.out _ _ _ ze.out ((Kept.refl _ wr).drew))
        have wk:=CM (yx.out.kept HO.out ((Kept.refl _ wr).drew))
        clear hj0
        refine af [(0,false,14),(1,false,14),(2,false,14),(3,false,14),(4,false,14),(5,false,14),(6,false,14),(7,false,14),(8,false,14),(9,false,14),(10,false,14),(11,false,14),(12,false,14),(13,false,14),(14,true,0),(15,false,999),(16,false,999)] (by kernel_rfl) (by kernel_rfl) ?_
        iterate 3 (refine ae rfl rfl (fun K hK=>?_);go_simp;refine hK _ ?_;clear hK K)
        iterate 2 (first|(refine al rfl rfl ?_;simp only [Act.put,CO,CP,CQ,CR,CT,CU])|(refine ai rfl rfl (fun K hK=>?_);go_simp;refine hK _ ?_;clear hK K))
        iterate 2 (refine ae rfl rfl (fun K hK=>?_);go_simp;refine hK _ ?_;clear hK K)
        iterate 7 (first|(refine al rfl rfl ?_;simp only [Act.put,CO,CP,CQ,CR,CT,CU])|(refine ai rfl rfl (fun K hK=>?_);go_simp;refine hK _ ?_;clear hK K))
        refine ag rfl ?_
        refine bW rfl ?_
        simp only [Act.put,CO,CP,CQ]
        refine wpList_nil ?_
        refine And.intro ?_ ?_
        · go_simp
        first|(refine al rfl rfl ?_;simp only [Act.put,CO,CP,CQ,CR,CT,CU])|(refine ai rfl rfl (fun K hK=>?_);go_simp;refine hK _ ?_;clear hK K)
        refine ae rfl rfl (fun K hK=>?_);go_simp;refine hK _ ?_;clear hK K
        refine ah ?_
        clear s0 s1 s2 s3 s4 s5 s6 s7 s8 s9 s10 m0 m1 m2 m3 mf hcell
        have hlen:∀p,p <+: pre++tells f j++f j→V p:=fun p hp=>yu.out p (hp.trans (by rw [List.append_assoc,←aW];exact(List.prefix_append_right_inj pre).2 (di f (by omega))))
        have IHJ:=CM (vY.out j kid hjn2 (by first|exact vD.out|(rw [Nat.zero_add];exact vD.out)) D2 zd.out _ _ xr.out hlen wk.out)
        clear hlen
        obtain⟨s0,s1,s2,s3,s4,s5,s6,s7,s8,s9,s10⟩:=Spn.at (s:=s) (wk.out.le _ _ wW.out)
        go_wp2_with ((go_at_call 85;refine IHJ.out.mono ?_;clear IHJ;rintro e7 w7 (⟨rfl,hJ7,hI7⟩|⟨rfl,q7,hq7,hx7⟩)))
        · first
          | exact⟨⟨j+1,by go_num,by omega,by rw [aW,←List.append_assoc];exact hJ7,hI7⟩,by simp [intOf];omega⟩
          | skip
            refine⟨?_,?measure⟩
            · iterate 37 apply Exists.intro
              exact⟨⟨j+1,by go_num,by omega,by rw [aW,←List.append_assoc];exact hJ7,hI7⟩,rfl⟩
            case measure=>simp [intOf];omega
        · go_ret
          refine .inr ⟨rfl,tells f j++q7,?_,by rw [←List.append_assoc];exact hx7⟩
          have e1:=di f (show j+1≤n by omega)
          rw [aW]at e1
          exact((List.prefix_append_right_inj _).2 hq7).trans e1
      · have hjp:(j:Int) > 0:=by omega
        rcases (show s.hasHi=false∨s.hasHi=true by cases s.hasHi<;>simp)with hh|hh
        · rw [hh]at s6
          have hjn2:j<n:=by
            rcases vl.out with h|⟨h1,h2⟩
            · omega
            · simp [NodeM.past,hh]at h2
          have xr:=CM (HJ.out _ _ _ ze.out ((Kept.refl _ wr).drew))
          have wk:=CM (yx.out.kept HO.out ((Kept.refl _ wr).drew))
          have HH:=CM hh
          clear hh
          refine af [(0,false,14),(1,false,14),(2,false,14),(3,false,14),(4,false,14),(5,false,14),(6,false,14),(7,false,14),(8,false,14),(9,false,14),(10,false,14),(11,false,14),(12,false,14),(13,false,14),(14,true,0),(15,false,999),(16,false,999)] (by kernel_rfl) (by kernel_rfl) ?_
          iterate 3 (refine ae rfl rfl (fun K hK=>?_);go_simp;refine hK _ ?_;clear hK K)
          iterate 2 (first|(refine al rfl rfl ?_;simp only [Act.put,CO,CP,CQ,CR,CT,CU])|(refine ai rfl rfl (fun K hK=>?_);go_simp;refine hK _ ?_;clear hK K))
          iterate 2 (refine ae rfl rfl (fun K hK=>?_);go_simp;refine hK _ ?_;clear hK K)
          iterate 7 (first|(refine al rfl rfl ?_;simp only [Act.put,CO,CP,CQ,CR,CT,CU])|(refine ai rfl rfl (fun K hK=>?_);go_simp;refine hK _ ?_;clear hK K))
          refine ag rfl ?_
          refine bW rfl ?_
          simp only [Act.put,CO,CP,CQ]
          refine wpList_nil ?_
          refine And.intro ?_ ?_
          · go_simp
          first|(refine al rfl rfl ?_;simp only [Act.put,CO,CP,CQ,CR,CT,CU])|(refine ai rfl rfl (fun K hK=>?_);go_simp;refine hK _ ?_;clear hK K)
          refine ae rfl rfl (fun K hK=>?_);go_simp;refine hK _ ?_;clear hK K
          refine ah ?_
          clear s0 s1 s2 s3 s4 s5 s6 s7 s8 s9 s10 m0 m1 m2 m3 mf hcell
          have hlen:∀p,p <+: pre++tells f j++f j→V p:=fun p hp=>yu.out p (hp.trans (by rw [List.append_assoc,←aW];exact(List.prefix_append_right_inj pre).2 (di f (by omega))))
          have IHJ:=CM (vY.out j kid hjn2 (by first|exact vD.out|(rw [Nat.zero_add];exact vD.out)) D2 zd.out _ _ xr.out hlen wk.out)
          clear hlen
          obtain⟨s0,s1,s2,s3,s4,s5,s6,s7,s8,s9,s10⟩:=Spn.at (s:=s) (wk.out.le _ _ wW.out)
          go_wp2_with ((go_at_call 85;refine IHJ.out.mono ?_;clear IHJ;rintro e7 w7 (⟨rfl,hJ7,hI7⟩|⟨rfl,q7,hq7,hx7⟩)))
          · first
            | exact⟨⟨j+1,by go_num,by omega,by rw [aW,←List.append_assoc];exact hJ7,hI7⟩,by simp [intOf];omega⟩
            | skip
              refine⟨?_,?measure⟩
              · iterate 37 apply Exists.intro
                exact⟨⟨j+1,by go_num,by omega,by rw [aW,←List.append_assoc];exact hJ7,hI7⟩,rfl⟩
              case measure=>simp [intOf];omega
          · go_ret
            refine .inr ⟨rfl,tells f j++q7,?_,by rw [←List.append_assoc];exact hx7⟩
            have e1:=di f (show j+1≤n by omega)
            rw [aW]at e1
            exact((List.prefix_append_right_inj _).2 hq7).trans e1
        · rw [hh]at s6
          obtain⟨q,hq⟩:∃q,j=q+1:=⟨j-1,by omega⟩
          have hqi:(j:Int)-1=(q:Int):=by omega
          have hmn:=A9.out
          have hqN:q<N0:=by omega
          obtain⟨x,hx⟩:∃x,m.keys[q]?=some x:=⟨m.keys[q]'(by rw [wL.out];exact hqN),List.getElem?_eq_getElem _⟩
          have hpast:m.past s (0+j-1)=decide (0<ak x s.hi):=by
            unfold NodeM.past
            rw [hh,show 0+j-1=q by omega,List.getD_eq_getElem?_getD,hx]
            rfl
          have vQ:=CM hpast
          obtain⟨lr2,hsr⟩:=xq.out wr (uQ.out.trans yx.out.le)
          have hrk:=hsr.keys_rd HP.out
          dsimp only at hrk
          rw [wL.out]at hrk
          obtain⟨kg,rfl⟩:∃kg,ko=some ⟨kg,0,none⟩:=by
            obtain⟨g2,c2,h2,_⟩:=aE (Sat.own (hsr.focus HP.out) 0 rfl) (by show 0<m.keys.length;rw [wL.out];omega)
            dsimp only at h2
            rw [Value.slice.injEq]at h2
            exact⟨g2,h2.1⟩
          obtain⟨y0,y1,y2⟩:=aM hrk hx
          simp only [Nat.zero_add]at y0 y1 y2
          have hqNi:(q:Int)<(N0:Int):=by omega
          have HH:=CM hh
          have HQ:=CM hq
          rw [hqi]
          clear hh hsr hrk hpast hqi hmn hw2 hw1 hx hq
          refine af [(0,false,14),(1,false,14),(2,false,14),(3,false,14),(4,false,14),(5,false,14),(6,false,14),(7,false,14),(8,false,14),(9,false,14),(10,false,14),(11,false,14),(12,false,14),(13,false,14),(14,true,0),(15,false,999),(16,false,999)] (by kernel_rfl) (by kernel_rfl) ?_
          iterate 3 (refine ae rfl rfl (fun K hK=>?_);go_simp;refine hK _ ?_;clear hK K)
          iterate 2 (first|(refine al rfl rfl ?_;simp only [Act.put,CO,CP,CQ,CR,CT,CU])|(refine ai rfl rfl (fun K hK=>?_);go_simp;refine hK _ ?_;clear hK K))
          iterate 2 (refine ae rfl rfl (fun K hK=>?_);go_simp;refine hK _ ?_;clear hK K)
          iterate 7 (first|(refine al rfl rfl ?_;simp only [Act.put,CO,CP,CQ,CR,CT,CU])|(refine ai rfl rfl (fun K hK=>?_);go_simp;refine hK _ ?_;clear hK K))
          refine ag rfl ?_
          refine au rfl (fun K hK=>?_)
          go_simp
          refine(bQ x s.hi _).mono ?_
          rintro e6 w6 ⟨rfl,hk6⟩
          have hk6':Kept (fun _=>False) wr w6:=((Kept.refl _ _).drew).trans hk6 (fun _ h=>h.elim)
          have xr:=CM (HJ.out _ _ _ ze.out hk6')
          have wk:=CM (yx.out.kept HO.out hk6')
          clear hk6 hk6' s0 s1 s2 s3 s4 s5 s6 s7 s8 s9 s10 m0 m1 m2 m3 mf hcell y0 y1 y2
          generalize ak x s.hi=cc at vQ ⊢
          refine hK _ _ ?_
          clear hK K
          refine wpList_nil ?_
          refine And.intro ?_ ?_
          · go_simp
          first|(refine al rfl rfl ?_;simp only [Act.put,CO,CP,CQ,CR,CT,CU])|(refine ai rfl rfl (fun K hK=>?_);go_simp;refine hK _ ?_;clear hK K)
          refine ae rfl rfl (fun K hK=>?_);go_simp;refine hK _ ?_;clear hK K
          refine ah ?_
          by_cases hcc:cc > 0
          · have hjn2:j=n:=by
              rcases Nat.lt_or_ge j n with h|h
              · have h1:=Ab.out j h (by omega)
                rw [vQ.out]at h1
                simp at h1
                omega
              · omega
            subst hjn2
            go_wp2_with fail
            go_ret
            exact .inl ⟨rfl,xr.out,wk.out.less uQ.out⟩
          · have hjn2:j<n:=by
              rcases Nat.lt_or_ge j n with h|h
              · exact h
              · obtain rfl:j=n:=by omega
                rcases vl.out with h1|⟨_,h2⟩
                · omega
                · rw [vQ.out]at h2
                  simp at h2
                  omega
            have hlen:∀p,p <+: pre++tells f j++f j→V p:=fun p hp=>yu.out p (hp.trans (by rw [List.append_assoc,←aW];exact(List.prefix_append_right_inj pre).2 (di f (by omega))))
            have IHJ:=CM (vY.out j kid hjn2 (by first|exact vD.out|(rw [Nat.zero_add];exact vD.out)) D2 zd.out _ _ xr.out hlen wk.out)
            clear hlen
            obtain⟨s0,s1,s2,s3,s4,s5,s6,s7,s8,s9,s10⟩:=Spn.at (s:=s) (wk.out.le _ _ wW.out)
            go_wp2_with ((go_at_call 85;refine IHJ.out.mono ?_;clear IHJ;rintro e7 w7 (⟨rfl,hJ7,hI7⟩|⟨rfl,q7,hq7,hx7⟩)))
            · first
              | exact⟨⟨j+1,by go_num,by omega,by rw [aW,←List.append_assoc];exact hJ7,hI7⟩,by simp [intOf];omega⟩
              | skip
                refine⟨?_,?measure⟩
                · iterate 37 apply Exists.intro
                  exact⟨⟨j+1,by go_num,by omega,by rw [aW,←List.append_assoc];exact hJ7,hI7⟩,rfl⟩
                case measure=>simp [intOf];omega
            · go_ret
              refine .inr ⟨rfl,tells f j++q7,?_,by rw [←List.append_assoc];exact hx7⟩
              have e1:=di f (show j+1≤n by omega)
              rw [aW]at e1
              exact((List.prefix_append_right_inj _).2 hq7).trans e1
    · have hjn2:j=n:=by omega
      subst hjn2
      have zZ:=CM hj
      have Aa:=CM hit
      have hjMi:¬(j:Int)<((M0-0:Nat):Int):=by omega
      clear hj hit
      go_wp2_with fail
      go_ret
      exact .inl ⟨rfl,zZ.out,Aa.out.less uQ.out⟩
theorem ql {n₀:Nat}{Ow:World→Nat→Prop}(hO:Owner n₀ Ow){D:PH}{t l i:Nat}{V:List (Val×VT)→Prop}{T:TM}{m:NodeM}{s:Spn}{J Jx:List (Val×VT)→World→Prop}
    (hJ:∀pre W W',J pre W→Kept (fun _=>False) W W'→J pre W')
    (hi:T.nodes[i]?=some m) (hl:m.leaf=false) (hkb:m.keys.length≤1000) (hdl:m.kids.length=m.keys.length+1) (hlo:s.hasLo=true)
    (n:Nat) (f:Nat→List (Val×VT)) (hn:m.start s+n≤m.kids.length) (hgo:∀j,j<n→0<j→m.past s (m.start s+j-1)=false) (hstop:m.start s+n=m.kids.length∨(0<n∧m.past s (m.start s+n-1)=true))
    (ih:∀j kid,j<n→m.kids[m.start s+j]?=some kid→∀(D:PH),TreeP D t T→∀(pre:List (Val×VT)) (W:World),J pre W→(∀p,p <+: pre++f j→V p)→ItOk n₀ Ow D W →
      Calls Tryz.prog 85 #[.pointer (some ⟨t,0,none⟩),.int .i64 kid,s.v,.func (.yield l) #[] #[]] W fun e W' =>
      (e = .returned (.bool true)∧J (pre++f j) W'∧ItOk n₀ Ow D W')∨(e = .returned (.bool false)∧∃q,q <+: f j∧Jx (pre++q) W'))
    (hT:TreeP D t T) (pre:List (Val×VT)) (W:World) (hj:J pre W) (hN:∀p,p <+: pre++tells f n→V p) (hit:ItOk n₀ Ow D W) :
    Calls Tryz.prog 85 #[.pointer (some ⟨t,0,none⟩),.int .i64 i,s.v,.func (.yield l) #[] #[]] W fun e W' =>
      (e = .returned (.bool true)∧J (pre++tells f n) W'∧ItOk n₀ Ow D W')∨(e = .returned (.bool false)∧∃q,q <+: tells f n∧Jx (pre++q) W'):=by
  have yH:=CM hT
  obtain⟨nv,fv,ns,hns,hTS⟩:=hT
  obtain⟨⟨kv,vv,dv⟩,hp⟩:=aH hns hi
  have hlt:=(List.getElem?_eq_some_iff.1 hp).1
  obtain⟨l0,hs0⟩:=hTS W hit.le
  obtain⟨g,c,rfl,_,hcm⟩:=hs0.nv_some (by omega)
  unfold maxLen at hcm
  have hib:(i:Int)<(ns.length:Int):=by omega
  obtain⟨ko,kc,hkv⟩:=(hs0.focus hp).own_shape
  obtain⟨vo,vc,hvv⟩:=(hs0.focus hp).drop.own_shape
  obtain⟨dg,dc,hdv,hdc1,hdc2⟩:=aE (Sat.own (hs0.focus hp) 2 rfl) (by show 0<m.kids.length;omega)
  dsimp only at hkv hvv hdv hdc1
  subst hkv hvv hdv
  have hk1:Kept (fun _=>False) W (W.alloc (.cells s.cells tS)):=(Kept.refl _ _).alloc _
  have hb1:(W.alloc (.cells s.cells tS)).heap[W.heap.size]?=some (.cells s.cells tS (0,0)):=aw W _
  have uW:=CM (hit.new hO hk1 hb1 (Nat.le_refl _))
  have uP:=CM (hit.with_le (.cells s.cells tS (0,0)) (Nat.le_refl _))
  have uq:=CM hk1
  have um:=CM hb1
  have xq:=CM hTS
  have HP:=CM hp
  have HO:=CM hO
  have yu:=CM hN
  clear hN
  have HJ:=CM hJ
  have vY:=CM ih
  have xg:=CM (hJ _ _ _ hj hk1)
  have HL:=CM hl
  have xB:=CM hlo
  have uL:=CM hns
  have Ab:=CM hgo
  have vl:=CM hstop
  have BQ:=CM hi
  clear hk1 hb1 hTS hp hit hO hJ ih hj hl hs0 hns hi hlo hgo hstop
  dsimp only [Spn.v]
  go_enter Tryz.func85,Tryz.ntmps85
  go_upto_region 1 with (fail)
  obtain⟨W1,hW1⟩:∃W1,W1=W.alloc (.cells s.cells tS):=⟨_,rfl⟩
  dsimp only [Spn.cells]at hW1
  rw [←hW1]
  dsimp only [Spn.cells]at uW uP uq um xg
  rw [←hW1]at uq um uW xg
  generalize hD1:D.with W.heap.size (.cells #[.bool s.no,.bool s.hasLo,.bool s.openLo,.bool s.lo.t,.int .i64 s.lo.n,.string s.lo.s,.bool s.hasHi,.bool s.openHi,.bool s.hi.t,.int .i64 s.hi.n,.string s.hi.s] tS (0,0))=D1 at uW uP
  have xh:=CM (show D1 W.heap.size=some (.cells #[.bool s.no,.bool s.hasLo,.bool s.openLo,.bool s.lo.t,.int .i64 s.lo.n,.string s.lo.s,.bool s.hasHi,.bool s.openHi,.bool s.hi.t,.int .i64 s.hi.n,.string s.hi.s] tS (0,0)) by rw [←hD1];exact PH.with_self _ _ _)
  generalize W.heap.size=bs at um xh ⊢
  clear hW1 hD1
  obtain⟨l1,hs1⟩:=xq.out W1 (uP.out.trans uW.out.le)
  obtain⟨t0,t1,t2,t3,t4,tf⟩:=hs1.tcells
  obtain⟨n0,n1,n2,n3,nf⟩:=hs1.node_cells HP.out
  dsimp only at n0 n1 n2 n3
  rw [HL.out]at n0
  have hb3:=((Sat.start W1).alloc #[.bool false,.slice ko m.keys.length kc,.slice vo m.vals.length vc,.slice (some ⟨dg,0,none⟩) m.kids.length dc] tN)
  have HB3:=CM hb3
  have yI:=CM hdl
  clear hs1 hb3 hdl
  go_upto_region 2 with (fail)
  obtain⟨W2,hW2,hs2⟩:=HB3.out.hide
  rw [←hW2]
  have hk2:Kept (fun _=>False) W1 W2:=hs2.drop.end_ (PH.le.refl _)
  have hb2:=hs2.blk 0 rfl
  have vX:=CM (uW.out.new HO.out hk2 hb2 (Nat.le_refl _))
  have uQ:=CM (uP.out.trans (uW.out.with_le (.cells #[.bool false,.slice ko m.keys.length kc,.slice vo m.vals.length vc,.slice (some ⟨dg,0,none⟩) m.kids.length dc] tN (0,0)) (Nat.le_refl _)))
  have zX:=CM (HJ.out _ _ _ xg.out hk2)
  generalize hD2:D1.with W1.heap.size (.cells #[.bool false,.slice ko m.keys.length kc,.slice vo m.vals.length vc,.slice (some ⟨dg,0,none⟩) m.kids.length dc] tN (0,0))=D2 at vX uQ
  have wW:=CM (show D2 bs=some (.cells #[.bool s.no,.bool s.hasLo,.bool s.openLo,.bool s.lo.t,.int .i64 s.lo.n,.string s.lo.s,.bool s.hasHi,.bool s.openHi,.bool s.hi.t,.int .i64 s.hi.n,.string s.hi.s] tS (0,0)) by
    rw [←hD2]
    exact uW.out.with_le _ (Nat.le_refl _) _ _ xh.out)
  have wj:=CM (show D2 W1.heap.size=some (.cells #[.bool false,.slice ko m.keys.length kc,.slice vo m.vals.length vc,.slice (some ⟨dg,0,none⟩) m.kids.length dc] tN (0,0)) by rw [←hD2];exact PH.with_self _ _ _)
  clear hD2
  generalize W1.heap.size=bn at wj ⊢
  clear hW2 hs2 hk2 hb2 HB3 um uW uP xg xh uq t0 t1 t2 t3 t4 tf n0 n1 n2 n3 nf
  obtain⟨N0,hN0⟩:∃N0,m.keys.length=N0:=⟨_,rfl⟩
  obtain⟨M0,hM0⟩:∃M0,m.kids.length=M0:=⟨_,rfl⟩
  obtain⟨A,hA⟩:∃A,m.start s=A:=⟨_,rfl⟩
  have hAle:=kC m s
  have hMN:M0=N0+1:=by rw [←hM0,←hN0];exact yI.out
  have wL:=CM hN0
  have zc:=CM hM0
  have HA:=CM hA
  have A9:=CM hMN
  obtain⟨s0,s1,s2,s3,s4,s5,s6,s7,s8,s9,s10⟩:=Spn.at (s:=s) (vX.out.le _ _ wW.out)
  obtain⟨m0,m1,m2,m3,mf⟩:=fI (vX.out.le _ _ wj.out)
  rw [hN0]at HP wj hkb m1 hAle
  rw [hM0]at HP wj m3 hn hdc1 vl
  rw [hA]at hn hAle Ab vl vY
  rw [xB.out]at s1
  have hAM:A≤M0:=by omega
  have hAMi:(A:Int)≤(M0:Int):=by omega
  have hMci:(M0:Int)≤(dc:Int):=by omega
  have hne:¬(dc=A):=by omega
  clear hN0 hM0 hA hMN
  have zg:=CM (iL (B:=W2) (D:=fun _=>none) s.lo BQ.out (by rw [wL.out];omega) (l:=(xq.out W2 (uQ.out.trans vX.out.le)).choose) ⟨_,_,_,uL.out,(xq.out W2 (uQ.out.trans vX.out.le)).choose_spec⟩)
  have hbA:bD m.keys s.lo=A:=by rw [←HA.out];unfold NodeM.start;rw [xB.out];rfl
  rw [hbA]at zg
  clear hbA
  go_upto_region 13 with ((go_at_call 102;refine zg.out.mono ?_;rintro e3 w3 ⟨rfl,hk3⟩;have wn:=CM (vX.out.kept HO.out hk3);have yG:=CM (HJ.out _ _ _ zX.out hk3);clear hk3 s0 s1 s2 s3 s4 s5 s6 s7 s8 s9 s10 m0 m1 m2 m3 mf zg))
  obtain⟨m0,m1,m2,m3,mf⟩:=fI (wn.out.le _ _ wj.out)
  go_wp2_with fail
  clear m0 m1 m2 m3 mf
  go_loopw [60] (fun idx wr=>∃j:Nat,idx = .int .i64 j∧j≤n∧J (pre++tells f j) wr∧ItOk n₀ Ow D2 wr) (fun idx _=>n+1-(intOf idx).toNat)
  case atStart=>exact⟨0,rfl,Nat.zero_le _,by simpa [tells]using yG.out,wn.out⟩
  case round =>
    obtain⟨j,rfl,hjn,hj,hit⟩:=hrel
    by_cases hjM:A+j<M0
    · obtain⟨kid,hkid⟩:∃kid,m.kids[A+j]?=some kid:=⟨m.kids[A+j]'(by rw [zc.out];exact hjM),List.getElem?_eq_getElem _⟩
      have vD:=CM hkid
      obtain⟨lr,hsr⟩:=xq.out wr (uQ.out.trans hit.le)
      have hrd:=hsr.kids_rd HP.out
      dsimp only at hrd
      have zd:=CM (yH.out.mono uQ.out)
      have hcell:=bI (by rw [zc.out]at hrd;rw [zc.out];exact hrd) hkid
      have hjMi:(j:Int)<((M0-A:Nat):Int):=by omega
      have hw1:IntKind.i64.wrap ((A:Int)+(j:Int))=(A:Int)+(j:Int):=qz _ (by omega) (by omega)
      have hw2:IntKind.i64.wrap ((A:Int)+(j:Int)-1)=(A:Int)+(j:Int)-1:=qz _ (by omega) (by omega)
      obtain⟨s0,s1,s2,s3,s4,s5,s6,s7,s8,s9,s10⟩:=Spn.at (s:=s) (hit.le _ _ wW.out)
      obtain⟨m0,m1,m2,m3,mf⟩:=fI (hit.le _ _ wj.out)
      have ze:=CM hj
      have yx:=CM hit
      clear hsr hrd hj hit hkid
      go_upto_region 17 with (fail)
      rcases Nat.eq_zero_or_pos j with hj0|hj0
      · have hjz:¬((j:Int) > 0):=by omega
        have hjz2:¬(0<j):=by omega
        have hjn2:j<n:=by rcases vl.out with h|⟨h1,_⟩<;>omega
        have xr:=CM (HJ.out _ _ _ ze.out ((Kept.refl _ wr).drew))
        have wk:=CM (yx.out.kept HO.out ((Kept.refl _ wr).drew))
        clear hj0
        refine af [(0,false,14),(1,false,14),(2,false,14),(3,false,14),(4,false,14),(5,false,14),(6,false,14),(7,false,14),(8,false,14),(9,false,14),(10,false,14),(11,false,14),(12,false,14),(13,false,14),(14,true,0),(15,false,999),(16,false,999)] (by kernel_rfl) (by kernel_rfl) ?_
        iterate 3 (refine ae rfl rfl (fun K hK=>?_);go_simp;refine hK _ ?_;clear hK K)
        iterate 2 (first|(refine al rfl rfl ?_;simp only [Act.put,CO,CP,CQ,CR,CT,CU])|(refine ai rfl rfl (fun K hK=>?_);go_simp;refine hK _ ?_;clear hK K))
        iterate 2 (refine ae rfl rfl (fun K hK=>?_);go_simp;refine hK _ ?_;clear hK K)
        iterate 7 (first|(refine al rfl rfl ?_;simp only [Act.put,CO,CP,CQ,CR,CT,CU])|(refine ai rfl rfl (fun K hK=>?_);go_simp;refine hK _ ?_;clear hK K))
        refine ag rfl ?_
        refine bW rfl ?_
        simp only [Act.put,CO,CP,CQ]
        refine wpList_nil ?_
        refine And.intro ?_ ?_
        · go_simp
        first|(refine al rfl rfl ?_;simp only [Act.put,CO,CP,CQ,CR,CT,CU])|(refine ai rfl rfl (fun K hK=>?_);go_simp;refine hK _ ?_;clear hK K)
        refine ae rfl rfl (fun K hK=>?_);go_simp;refine hK _ ?_;clear hK K
        refine ah ?_
        clear s0 s1 s2 s3 s4 s5 s6 s7 s8 s9 s10 m0 m1 m2 m3 mf hcell
        have hlen:∀p,p <+: pre++tells f j++f j→V p:=fun p hp=>yu.out p (hp.trans (by rw [List.append_assoc,←aW];exact(List.prefix_append_right_inj pre).2 (di f (by omega))))
        have IHJ:=CM (vY.out j kid hjn2 (by first|exact vD.out|(rw [Nat.zero_add];exact vD.out)) D2 zd.out _ _ xr.out hlen wk.out)
        clear hlen
        obtain⟨s0,s1,s2,s3,s4,s5,s6,s7,s8,s9,s10⟩:=Spn.at (s:=s) (wk.out.le _ _ wW.out)
        go_wp2_with ((go_at_call 85;refine IHJ.out.mono ?_;clear IHJ;rintro e7 w7 (⟨rfl,hJ7,hI7⟩|⟨rfl,q7,hq7,hx7⟩)))
        · first
          | exact⟨⟨j+1,by go_num,by omega,by rw [aW,←List.append_assoc];exact hJ7,hI7⟩,by simp [intOf];omega⟩
          | skip
            refine⟨?_,?measure⟩
            · iterate 37 apply Exists.intro
              exact⟨⟨j+1,by go_num,by omega,by rw [aW,←List.append_assoc];exact hJ7,hI7⟩,rfl⟩
            case measure=>simp [intOf];omega
        · go_ret
          refine .inr ⟨rfl,tells f j++q7,?_,by rw [←List.append_assoc];exact hx7⟩
          have e1:=di f (show j+1≤n by omega)
          rw [aW]at e1
          exact((List.prefix_append_right_inj _).2 hq7).trans e1
      · have hjp:(j:Int) > 0:=by omega
        rcases (show s.hasHi=false∨s.hasHi=true by cases s.hasHi<;>simp)with hh|hh
        · rw [hh]at s6
          have hjn2:j<n:=by
            rcases vl.out with h|⟨h1,h2⟩
            · omega
            · simp [NodeM.past,hh]at h2
          have xr:=CM (HJ.out _ _ _ ze.out ((Kept.refl _ wr).drew))
          have wk:=CM (yx.out.kept HO.out ((Kept.refl _ wr).drew))
          have HH:=CM hh
          clear hh
          refine af [(0,false,14),(1,false,14),(2,false,14),(3,false,14),(4,false,14),(5,false,14),(6,false,14),(7,false,14),(8,false,14),(9,false,14),(10,false,14),(11,false,14),(12,false,14),(13,false,14),(14,true,0),(15,false,999),(16,false,999)] (by kernel_rfl) (by kernel_rfl) ?_
          iterate 3 (refine ae rfl rfl (fun K hK=>?_);go_simp;refine hK _ ?_;clear hK K)
          iterate 2 (first|(refine al rfl rfl ?_;simp only [Act.put,CO,CP,CQ,CR,CT,CU])|(refine ai rfl rfl (fun K hK=>?_);go_simp;refine hK _ ?_;clear hK K))
          iterate 2 (refine ae rfl rfl (fun K hK=>?_);go_simp;refine hK _ ?_;clear hK K)
          iterate 7 (first|(refine al rfl rfl ?_;simp only [Act.put,CO,CP,CQ,CR,CT,CU])|(refine ai rfl rfl (fun K hK=>?_);go_simp;refine hK _ ?_;clear hK K))
          refine ag rfl ?_
          refine bW rfl ?_
          simp only [Act.put,CO,CP,CQ]
          refine wpList_nil ?_
          refine And.intro ?_ ?_
          · go_simp
          first|(refine al rfl rfl ?_;simp only [Act.put,CO,CP,CQ,CR,CT,CU])|(refine ai rfl rfl (fun K hK=>?_);go_simp;refine hK _ ?_;clear hK K)
          refine ae rfl rfl (fun K hK=>?_);go_simp;refine hK _ ?_;clear hK K
          refine ah ?_
          clear s0 s1 s2 s3 s4 s5 s6 s7 s8 s9 s10 m0 m1 m2 m3 mf hcell
          have hlen:∀p,p <+: pre++tells f j++f j→V p:=fun p hp=>yu.out p (hp.trans (by rw [List.append_assoc,←aW];exact(List.prefix_append_right_inj pre).2 (di f (by omega))))
          have IHJ:=CM (vY.out j kid hjn2 (by first|exact vD.out|(rw [Nat.zero_add];exact vD.out)) D2 zd.out _ _ xr.out hlen wk.out)
          clear hlen
          obtain⟨s0,s1,s2,s3,s4,s5,s6,s7,s8,s9,s10⟩:=Spn.at (s:=s) (wk.out.le _ _ wW.out)
          go_wp2_with ((go_at_call 85;refine IHJ.out.mono ?_;clear IHJ;rintro e7 w7 (⟨rfl,hJ7,hI7⟩|⟨rfl,q7,hq7,hx7⟩)))
          · first
            | exact⟨⟨j+1,by go_num,by omega,by rw [aW,←List.append_assoc];exact hJ7,hI7⟩,by simp [intOf];omega⟩
            | skip
              refine⟨?_,?measure⟩
              · iterate 37 apply Exists.intro
                exact⟨⟨j+1,by go_num,by omega,by rw [aW,←List.append_assoc];exact hJ7,hI7⟩,rfl⟩
              case measure=>simp [intOf];omega
          · go_ret
            refine .inr ⟨rfl,tells f j++q7,?_,by rw [←List.append_assoc];exact hx7⟩
            have e1:=di f (show j+1≤n by omega)
            rw [aW]at e1
            exact((List.prefix_append_right_inj _).2 hq7).trans e1
        · rw [hh]at s6
          obtain⟨q,hq⟩:∃q,A+j=q+1:=⟨A+j-1,by omega⟩
          have hqi:(A:Int)+(j:Int)-1=(q:Int):=by omega
          have hmn:=A9.out
          have hqN:q<N0:=by omega
          obtain⟨x,hx⟩:∃x,m.keys[q]?=some x:=⟨m.keys[q]'(by rw [wL.out];exact hqN),List.getElem?_eq_getElem _⟩
          have hpast:m.past s (A+j-1)=decide (0<ak x s.hi):=by
            unfold NodeM.past
            rw [hh,show A+j-1=q by omega,List.getD_eq_getElem?_getD,hx]
            rfl
          have vQ:=CM hpast
          obtain⟨lr2,hsr⟩:=xq.out wr (uQ.out.trans yx.out.le)
          have hrk:=hsr.keys_rd HP.out
          dsimp only at hrk
          rw [wL.out]at hrk
          obtain⟨kg,rfl⟩:∃kg,ko=some ⟨kg,0,none⟩:=by
            obtain⟨g2,c2,h2,_⟩:=aE (Sat.own (hsr.focus HP.out) 0 rfl) (by show 0<m.keys.length;rw [wL.out];omega)
            dsimp only at h2
            rw [Value.slice.injEq]at h2
            exact⟨g2,h2.1⟩
          obtain⟨y0,y1,y2⟩:=aM hrk hx
          simp only [Nat.zero_add]at y0 y1 y2
          have hqNi:(q:Int)<(N0:Int):=by omega
          have HH:=CM hh
          have HQ:=CM hq
          rw [hqi]
          clear hh hsr hrk hpast hqi hmn hw2 hw1 hx hq
          refine af [(0,false,14),(1,false,14),(2,false,14),(3,false,14),(4,false,14),(5,false,14),(6,false,14),(7,false,14),(8,false,14),(9,false,14),(10,false,14),(11,false,14),(12,false,14),(13,false,14),(14,true,0),(15,false,999),(16,false,999)] (by kernel_rfl) (by kernel_rfl) ?_
          iterate 3 (refine ae rfl rfl (fun K hK=>?_);go_simp;refine hK _ ?_;clear hK K)
          iterate 2 (first|(refine al rfl rfl ?_;simp only [Act.put,CO,CP,CQ,CR,CT,CU])|(refine ai rfl rfl (fun K hK=>?_);go_simp;refine hK _ ?_;clear hK K))
          iterate 2 (refine ae rfl rfl (fun K hK=>?_);go_simp;refine hK _ ?_;clear hK K)
          iterate 7 (first|(refine al rfl rfl ?_;simp only [Act.put,CO,CP,CQ,CR,CT,CU])|(refine ai rfl rfl (fun K hK=>?_);go_simp;refine hK _ ?_;clear hK K))
          refine ag rfl ?_
          refine au rfl (fun K hK=>?_)
          go_simp
          refine(bQ x s.hi _).mono ?_
          rintro e6 w6 ⟨rfl,hk6⟩
          have hk6':Kept (fun _=>False) wr w6:=((Kept.refl _ _).drew).trans hk6 (fun _ h=>h.elim)
          have xr:=CM (HJ.out _ _ _ ze.out hk6')
          have wk:=CM (yx.out.kept HO.out hk6')
          clear hk6 hk6' s0 s1 s2 s3 s4 s5 s6 s7 s8 s9 s10 m0 m1 m2 m3 mf hcell y0 y1 y2
          generalize ak x s.hi=cc at vQ ⊢
          refine hK _ _ ?_
          clear hK K
          refine wpList_nil ?_
          refine And.intro ?_ ?_
          · go_simp
          first|(refine al rfl rfl ?_;simp only [Act.put,CO,CP,CQ,CR,CT,CU])|(refine ai rfl rfl (fun K hK=>?_);go_simp;refine hK _ ?_;clear hK K)
          refine ae rfl rfl (fun K hK=>?_);go_simp;refine hK _ ?_;clear hK K
          refine ah ?_
          by_cases hcc:cc > 0
          · have hjn2:j=n:=by
              rcases Nat.lt_or_ge j n with h|h
              · have h1:=Ab.out j h (by omega)
                rw [vQ.out]at h1
                simp at h1
                omega
              · omega
            subst hjn2
            go_wp2_with fail
            go_ret
            exact .inl ⟨rfl,xr.out,wk.out.less uQ.out⟩
          · have hjn2:j<n:=by
              rcases Nat.lt_or_ge j n with h|h
              · exact h
              · obtain rfl:j=n:=by omega
                rcases vl.out with h1|⟨_,h2⟩
                · omega
                · rw [vQ.out]at h2
                  simp at h2
                  omega
            have hlen:∀p,p <+: pre++tells f j++f j→V p:=fun p hp=>yu.out p (hp.trans (by rw [List.append_assoc,←aW];exact(List.prefix_append_right_inj pre).2 (di f (by omega))))
            have IHJ:=CM (vY.out j kid hjn2 (by first|exact vD.out|(rw [Nat.zero_add];exact vD.out)) D2 zd.out _ _ xr.out hlen wk.out)
            clear hlen
            obtain⟨s0,s1,s2,s3,s4,s5,s6,s7,s8,s9,s10⟩:=Spn.at (s:=s) (wk.out.le _ _ wW.out)
            go_wp2_with ((go_at_call 85;refine IHJ.out.mono ?_;clear IHJ;rintro e7 w7 (⟨rfl,hJ7,hI7⟩|⟨rfl,q7,hq7,hx7⟩)))
            · first
              | exact⟨⟨j+1,by go_num,by omega,by rw [aW,←List.append_assoc];exact hJ7,hI7⟩,by simp [intOf];omega⟩
              | skip
                refine⟨?_,?measure⟩
                · iterate 37 apply Exists.intro
                  exact⟨⟨j+1,by go_num,by omega,by rw [aW,←List.append_assoc];exact hJ7,hI7⟩,rfl⟩
                case measure=>simp [intOf];omega
            · go_ret
              refine .inr ⟨rfl,tells f j++q7,?_,by rw [←List.append_assoc];exact hx7⟩
              have e1:=di f (show j+1≤n by omega)
              rw [aW]at e1
              exact((List.prefix_append_right_inj _).2 hq7).trans e1
    · have hjn2:j=n:=by omega
      subst hjn2
      have zZ:=CM hj
      have Aa:=CM hit
      have hjMi:¬(j:Int)<((M0-A:Nat):Int):=by omega
      clear hj hit
      go_wp2_with fail
      go_ret
      exact .inl ⟨rfl,zZ.out,Aa.out.less uQ.out⟩
end Go.Proofs.YtdobimafhbfkhaaGreat
