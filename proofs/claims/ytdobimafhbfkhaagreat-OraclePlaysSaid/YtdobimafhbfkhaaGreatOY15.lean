/- The tree: contract of through, at an inner node, and what follows. -/
import Derived.Test.YtdobimafhbfkhaaGreatOY14
set_option maxHeartbeats 64000000
namespace Go.Proofs.YtdobimafhbfkhaaGreat
open Go.ChangeShapes Go.WideShapes Go.ChangeAt Go.RowKit
set_option maxRecDepth 100000
set_option linter.unusedSimpArgs false
def NodeM.start (m:NodeM)(s:Spn):Nat:=if s.hasLo then bu m.keys s.lo else 0
def NodeM.past (m:NodeM)(s:Spn)(c:Nat):Bool:=s.hasHi&&decide (0<ai (m.keys.getD c default) s.hi)
theorem kt (keys:List Val)(k:Val):bu keys k≤keys.length:=by
 unfold bu;cases h:dW keys k
 ·have h2:bg keys k≤keys.length:=(mo (jj keys k) 0 keys.length (Gp _)).2
  simpa using h2
 ·unfold dW at h
  simp only [Bool.and_eq_true,decide_eq_true_eq]at h;have:=h.1;simp;omega
theorem sz (x:Int)(h1 : -9223372036854775808≤x)(h2:x≤9223372036854775807):IntKind.i64.wrap x=x:=Gr _ (by omega)
theorem lW (m:NodeM)(s:Spn):m.start s≤m.keys.length:=by
 unfold NodeM.start;split
 ·exact kt _ _
 ·omega
def tells (f:Nat→List (Val×VT))(n:Nat):List (Val×VT):=(List.range n).flatMap f
theorem aW (f:Nat→List (Val×VT))(n:Nat):tells f (n+1)=tells f n++f n:=by unfold tells;rw [List.range_succ,FT];simp
theorem dz (f : Nat → List (Val × VT)) {a b : Nat} (h : a ≤ b) : tells f a <+: tells f b := by
  induction b with
  | zero => obtain rfl : a = 0 := by omega
            exact List.prefix_refl _
  | succ b ih =>
    by_cases e : a = b + 1
    · subst e; exact List.prefix_refl _
    · rw [aW]; exact (ih (by omega)).trans (List.prefix_append _ _)
theorem oI {n₀:Nat}{Ow:World→Nat→Prop}(hO:Owner n₀ Ow){D:PH}{t l i:Nat}{V:List (Val×VT)→Prop}{T:TM}{m:NodeM}{s:Spn}{J Jx:List (Val×VT)→World→Prop}
    (hJ:∀pre W W',J pre W→Kept (fun _=>False) W W'→J pre W')
    (hi:T.nodes[i]?=some m) (hl:m.leaf=false) (hkb:m.keys.length≤1000) (hdl:m.kids.length=m.keys.length+1) (hlo:s.hasLo=false)
    (n:Nat) (f:Nat→List (Val×VT)) (hn:m.start s+n≤m.kids.length) (hgo:∀j,j<n→0<j→m.past s (m.start s+j-1)=false) (hstop:m.start s+n=m.kids.length∨(0<n∧m.past s (m.start s+n-1)=true))
    (ih:∀j kid,j<n→m.kids[m.start s+j]?=some kid→∀(D:PH),TreeP D t T→∀(pre:List (Val×VT)) (W:World),J pre W→(∀p,p <+: pre++f j→V p)→ItOk n₀ Ow D W →
      Calls Tryz.prog 85 #[.pointer (some ⟨t,0,none⟩),.int .i64 kid,s.v,.func (.yield l) #[] #[]] W fun e W' =>
      (e = .returned (.bool true)∧J (pre++f j) W'∧ItOk n₀ Ow D W')∨(e = .returned (.bool false)∧∃q,q <+: f j∧Jx (pre++q) W'))
    (hT:TreeP D t T) (pre:List (Val×VT)) (W:World) (hj:J pre W) (hN:∀p,p <+: pre++tells f n→V p) (hit:ItOk n₀ Ow D W) :
    Calls Tryz.prog 85 #[.pointer (some ⟨t,0,none⟩),.int .i64 i,s.v,.func (.yield l) #[] #[]] W fun e W' =>
      (e = .returned (.bool true)∧J (pre++tells f n) W'∧ItOk n₀ Ow D W')∨(e = .returned (.bool false)∧∃q,q <+: tells f n∧Jx (pre++q) W'):=by
  have A6:=FH hT;obtain⟨nv,fv,ns,hns,hTS⟩:=hT;obtain⟨⟨kv,vv,dv⟩,hp⟩:=aK hns hi;have hlt:=(FO.1 hp).1;obtain⟨l0,hs0⟩:=hTS W hit.le;obtain⟨g,c,rfl,_,hcm⟩:=hs0.nv_some (by omega);unfold maxLen at hcm;have hib:(i:Int)<(ns.length:Int):=by omega
  obtain⟨ko,kc,hkv⟩:=(hs0.focus hp).own_shape;obtain⟨vo,vc,hvv⟩:=(hs0.focus hp).drop.own_shape;obtain⟨dg,dc,hdv,hdc1,hdc2⟩:=aF (Sat.own (hs0.focus hp) 2 rfl) (by show 0<m.kids.length;omega);dsimp only at hkv hvv hdv hdc1;subst hkv hvv hdv;have hk1:Kept (fun _=>False) W (W.alloc (.cells s.cells tS)):=(Kept.refl _ _).alloc _;have hb1:(W.alloc (.cells s.cells tS)).heap[W.heap.size]?=some (.cells s.cells tS (0,0)):=ak W _;have xB:=FH (hit.new hO hk1 hb1 (Gn _));have xp:=FH (hit.with_le (.cells s.cells tS (0,0)) (Gn _));have wN:=FH hk1;have wL:=FH hb1;have Am:=FH hTS;have HP:=FH hp;have HO:=FH hO;have Bg:=FH hN;clear hN;have HJ:=FH hJ;have yZ:=FH ih;have Ae:=FH (hJ _ _ _ hj hk1);have HL:=FH hl;have xM:=FH hlo;have xr:=FH hns;have CK:=FH hgo;have yc:=FH hstop;have Ew:=FH hi;clear hk1 hb1 hTS hp hit hO hJ ih hj hl hs0 hns hi hlo hgo hstop;dsimp only [Spn.v];go_enter Tryz.func85,Tryz.ntmps85;go_upto_region 1 with (fail)
  obtain⟨W1,hW1⟩:∃W1,W1=W.alloc (.cells s.cells tS):=⟨_,rfl⟩;dsimp only [Spn.cells]at hW1;rw [←hW1];dsimp only [Spn.cells]at xB xp wN wL Ae;rw [←hW1]at wN wL xB Ae;generalize hD1:D.with W.heap.size (.cells #[.bool s.no,.bool s.hasLo,.bool s.openLo,.bool s.lo.t,.int .i64 s.lo.n,.string s.lo.s,.bool s.hasHi,.bool s.openHi,.bool s.hi.t,.int .i64 s.hi.n,.string s.hi.s] tS (0,0))=D1 at xB xp
  have Af:=FH (show D1 W.heap.size=some (.cells #[.bool s.no,.bool s.hasLo,.bool s.openLo,.bool s.lo.t,.int .i64 s.lo.n,.string s.lo.s,.bool s.hasHi,.bool s.openHi,.bool s.hi.t,.int .i64 s.hi.n,.string s.hi.s] tS (0,0)) by rw [←hD1];exact PH.with_self _ _ _);generalize W.heap.size=bs at wL Af ⊢;clear hW1 hD1;obtain⟨l1,hs1⟩:=Am.out W1 (xp.out.trans xB.out.le);obtain⟨t0,t1,t2,t3,t4,tf⟩:=hs1.tcells;obtain⟨n0,n1,n2,n3,nf⟩:=hs1.node_cells HP.out;dsimp only at n0 n1 n2 n3;rw [HL.out]at n0;have hb3:=((Sat.start W1).alloc #[.bool false,.slice ko m.keys.length kc,.slice vo m.vals.length vc,.slice (some ⟨dg,0,none⟩) m.kids.length dc] tN);have xL:=FH hb3;have Bt:=FH hdl;clear hs1 hb3 hdl;go_upto_region 2 with (fail)
  obtain⟨W2,hW2,hs2⟩:=xL.out.hide;rw [←hW2];have hk2:Kept (fun _=>False) W1 W2:=hs2.drop.end_ (PH.le.refl _);have hb2:=hs2.blk 0 rfl;have yY:=FH (xB.out.new HO.out hk2 hb2 (Gn _));have xe:=FH (xp.out.trans (xB.out.with_le (.cells #[.bool false,.slice ko m.keys.length kc,.slice vo m.vals.length vc,.slice (some ⟨dg,0,none⟩) m.kids.length dc] tN (0,0)) (Gn _)));have CG:=FH (HJ.out _ _ _ Ae.out hk2);generalize hD2:D1.with W1.heap.size (.cells #[.bool false,.slice ko m.keys.length kc,.slice vo m.vals.length vc,.slice (some ⟨dg,0,none⟩) m.kids.length dc] tN (0,0))=D2 at yY xe
  have zV:=FH (show D2 bs=some (.cells #[.bool s.no,.bool s.hasLo,.bool s.openLo,.bool s.lo.t,.int .i64 s.lo.n,.string s.lo.s,.bool s.hasHi,.bool s.openHi,.bool s.hi.t,.int .i64 s.hi.n,.string s.hi.s] tS (0,0)) by
    rw [←hD2];exact xB.out.with_le _ (Gn _) _ _ Af.out)
  have zm:=FH (show D2 W1.heap.size=some (.cells #[.bool false,.slice ko m.keys.length kc,.slice vo m.vals.length vc,.slice (some ⟨dg,0,none⟩) m.kids.length dc] tN (0,0)) by rw [←hD2];exact PH.with_self _ _ _);clear hD2;generalize W1.heap.size=bn at zm ⊢;clear hW2 hs2 hk2 hb2 xL wL xB xp Ae Af wN t0 t1 t2 t3 t4 tf n0 n1 n2 n3 nf;obtain⟨N0,hN0⟩:∃N0,m.keys.length=N0:=⟨_,rfl⟩;obtain⟨M0,hM0⟩:∃M0,m.kids.length=M0:=⟨_,rfl⟩;obtain⟨A,hA⟩:∃A,m.start s=A:=⟨_,rfl⟩;have hAle:=lW m s;have hMN:M0=N0+1:=by rw [←hM0,←hN0];exact Bt.out
  have zL:=FH hN0;have BS:=FH hM0;have HA:=FH hA;have DI:=FH hMN;obtain⟨s0,s1,s2,s3,s4,s5,s6,s7,s8,s9,s10⟩:=Spn.at (s:=s) (yY.out.le _ _ zV.out);obtain⟨m0,m1,m2,m3,mf⟩:=gV (yY.out.le _ _ zm.out);rw [hN0]at HP zm hkb m1 hAle;rw [hM0]at HP zm m3 hn hdc1 yc;rw [hA]at hn hAle CK yc yZ;rw [xM.out]at s1;have hAM:A≤M0:=by omega
  have hAMi:(A:Int)≤(M0:Int):=by omega
  have hMci:(M0:Int)≤(dc:Int):=by omega
  have hne:¬(dc=A):=by omega
  clear hN0 hM0 hA hMN;obtain rfl:A=0:=by rw [←HA.out];unfold NodeM.start;rw [xM.out];rfl
  have zv:=yY;have Br:=CG;go_upto_region 13 with (fail)
  clear s0 s1 s2 s3 s4 s5 s6 s7 s8 s9 s10 m0 m1 m2 m3 mf;generalize W2=w3 at zv Br ⊢;obtain⟨m0,m1,m2,m3,mf⟩:=gV (zv.out.le _ _ zm.out);go_wp2_with fail;clear m0 m1 m2 m3 mf
  go_loopw [60] (fun idx wr=>∃j:Nat,idx = .int .i64 j∧j≤n∧J (pre++tells f j) wr∧ItOk n₀ Ow D2 wr) (fun idx _=>n+1-(intOf idx).toNat)
  case atStart=>exact⟨0,rfl,Gp _,by simpa [tells]using Br.out,zv.out⟩
  case round =>
    obtain⟨j,rfl,hjn,hj,hit⟩:=hrel;by_cases hjM:j<M0
    · obtain⟨kid,hkid⟩:∃kid,m.kids[j]?=some kid:=⟨m.kids[j]'(by rw [BS.out];exact hjM),FP _⟩
      have yC:=FH hkid;obtain⟨lr,hsr⟩:=Am.out wr (xe.out.trans hit.le);have hrd:=hsr.kids_rd HP.out;dsimp only at hrd;have BT:=FH (A6.out.mono xe.out);have hcell:=bD (by rw [BS.out]at hrd;rw [BS.out];exact hrd) hkid;have hjMi:(j:Int)<((M0-0:Nat):Int):=by omega
      have hw1:IntKind.i64.wrap ((j:Int))=(j:Int):=sz _ (by omega) (by omega);have hw2:IntKind.i64.wrap ((j:Int)-1)=(j:Int)-1:=sz _ (by omega) (by omega);obtain⟨s0,s1,s2,s3,s4,s5,s6,s7,s8,s9,s10⟩:=Spn.at (s:=s) (hit.le _ _ zV.out);obtain⟨m0,m1,m2,m3,mf⟩:=gV (hit.le _ _ zm.out);have BU:=FH hj;have Bh:=FH hit;clear hsr hrd hj hit hkid;go_upto_region 17 with (fail)
      rcases Nat.eq_zero_or_pos j with hj0|hj0
      · have hjz:¬((j:Int) > 0):=by omega
        have hjz2:¬(0<j):=by omega
        have hjn2:j<n:=by rcases yc.out with h|⟨h1,_⟩<;>omega
        have Ao:=FH (HJ.out _ _ _ BU.out ((Kept.refl _ wr).drew));have zn:=FH (Bh.out.kept HO.out ((Kept.refl _ wr).drew));clear hj0;refine aH [rq 0 14,rq 1 14,rq 2 14,rq 3 14,rq 4 14,rq 5 14,rq 6 14,rq 7 14,rq 8 14,rq 9 14,rq 10 14,rq 11 14,rq 12 14,rq 13 14,(14,true,0),rq 15 999,rq 16 999] ?_;(iterate 14 (first|(refine ax rfl rfl ?_;simp only [Act.put,FI,FJ,FK,FL,FM,FN])|((first|refine ae rfl rfl (fun K hK=>?_)|refine ar rfl rfl fun K hK=>?_);go_simp;apply hK;clear hK K)));refine af rfl ?_;refine bU rfl ?_;simp only [Act.put,FI,FJ,FK];refine wpList_nil ?_;apply And.intro
        · go_simp
        (iterate 2 (first|(refine ax rfl rfl ?_;simp only [Act.put,FI,FJ,FK,FL,FM,FN])|((first|refine ae rfl rfl (fun K hK=>?_)|refine ar rfl rfl fun K hK=>?_);go_simp;apply hK;clear hK K)));refine ag ?_
        clear s0 s1 s2 s3 s4 s5 s6 s7 s8 s9 s10 m0 m1 m2 m3 mf hcell;have hlen:∀p,p <+: pre++tells f j++f j→V p:=fun p hp=>Bg.out p (hp.trans (by rw [FU,←aW];exact(List.prefix_append_right_inj pre).2 (dz f (by omega))));have IHJ:=FH (yZ.out j kid hjn2 (by first|exact yC.out|(rw [Nat.zero_add];exact yC.out)) D2 BT.out _ _ Ao.out hlen zn.out);clear hlen;obtain⟨s0,s1,s2,s3,s4,s5,s6,s7,s8,s9,s10⟩:=Spn.at (s:=s) (zn.out.le _ _ zV.out);go_wp2_with ((go_at_call 85;refine IHJ.out.mono ?_;clear IHJ;rintro e7 w7 (⟨rfl,hJ7,hI7⟩|⟨rfl,q7,hq7,hx7⟩)))
        · first
          | exact⟨⟨j+1,by go_num,by omega,by rw [aW,←FU];exact hJ7,hI7⟩,by simp [intOf];omega⟩
          | skip
            refine⟨?_,?measure⟩
            · iterate 37 apply Exists.intro
              exact⟨⟨j+1,by go_num,by omega,by rw [aW,←FU];exact hJ7,hI7⟩,rfl⟩
            case measure=>simp [intOf];omega
        · go_ret
          refine .inr ⟨rfl,tells f j++q7,?_,by rw [←FU];exact hx7⟩;have e1:=dz f (show j+1≤n by omega);rw [aW]at e1;exact((List.prefix_append_right_inj _).2 hq7).trans e1
      · have hjp:(j:Int) > 0:=by omega
        rcases (show s.hasHi=false∨s.hasHi=true by cases s.hasHi<;>simp)with hh|hh
        · rw [hh]at s6
          have hjn2:j<n:=by
            rcases yc.out with h|⟨h1,h2⟩
            · omega
            · simp [NodeM.past,hh]at h2
          have Ao:=FH (HJ.out _ _ _ BU.out ((Kept.refl _ wr).drew));have zn:=FH (Bh.out.kept HO.out ((Kept.refl _ wr).drew));have HH:=FH hh;clear hh;refine aH [rq 0 14,rq 1 14,rq 2 14,rq 3 14,rq 4 14,rq 5 14,rq 6 14,rq 7 14,rq 8 14,rq 9 14,rq 10 14,rq 11 14,rq 12 14,rq 13 14,(14,true,0),rq 15 999,rq 16 999] ?_;(iterate 14 (first|(refine ax rfl rfl ?_;simp only [Act.put,FI,FJ,FK,FL,FM,FN])|((first|refine ae rfl rfl (fun K hK=>?_)|refine ar rfl rfl fun K hK=>?_);go_simp;apply hK;clear hK K)));refine af rfl ?_;refine bU rfl ?_;simp only [Act.put,FI,FJ,FK];refine wpList_nil ?_;apply And.intro
          · go_simp
          (iterate 2 (first|(refine ax rfl rfl ?_;simp only [Act.put,FI,FJ,FK,FL,FM,FN])|((first|refine ae rfl rfl (fun K hK=>?_)|refine ar rfl rfl fun K hK=>?_);go_simp;apply hK;clear hK K)));refine ag ?_
          clear s0 s1 s2 s3 s4 s5 s6 s7 s8 s9 s10 m0 m1 m2 m3 mf hcell;have hlen:∀p,p <+: pre++tells f j++f j→V p:=fun p hp=>Bg.out p (hp.trans (by rw [FU,←aW];exact(List.prefix_append_right_inj pre).2 (dz f (by omega))));have IHJ:=FH (yZ.out j kid hjn2 (by first|exact yC.out|(rw [Nat.zero_add];exact yC.out)) D2 BT.out _ _ Ao.out hlen zn.out);clear hlen;obtain⟨s0,s1,s2,s3,s4,s5,s6,s7,s8,s9,s10⟩:=Spn.at (s:=s) (zn.out.le _ _ zV.out);go_wp2_with ((go_at_call 85;refine IHJ.out.mono ?_;clear IHJ;rintro e7 w7 (⟨rfl,hJ7,hI7⟩|⟨rfl,q7,hq7,hx7⟩)))
          · first
            | exact⟨⟨j+1,by go_num,by omega,by rw [aW,←FU];exact hJ7,hI7⟩,by simp [intOf];omega⟩
            | skip
              refine⟨?_,?measure⟩
              · iterate 37 apply Exists.intro
                exact⟨⟨j+1,by go_num,by omega,by rw [aW,←FU];exact hJ7,hI7⟩,rfl⟩
              case measure=>simp [intOf];omega
          · go_ret
            refine .inr ⟨rfl,tells f j++q7,?_,by rw [←FU];exact hx7⟩;have e1:=dz f (show j+1≤n by omega);rw [aW]at e1;exact((List.prefix_append_right_inj _).2 hq7).trans e1
        · rw [hh]at s6
          obtain⟨q,hq⟩:∃q,j=q+1:=⟨j-1,by omega⟩;have hqi:(j:Int)-1=(q:Int):=by omega
          have hmn:=DI.out;have hqN:q<N0:=by omega
          obtain⟨x,hx⟩:∃x,m.keys[q]?=some x:=⟨m.keys[q]'(by rw [zL.out];exact hqN),FP _⟩;have hpast:m.past s (0+j-1)=decide (0<ai x s.hi):=by
            unfold NodeM.past;rw [hh,show 0+j-1=q by omega,FW,hx]
            rfl
          have yR:=FH hpast;obtain⟨lr2,hsr⟩:=Am.out wr (xe.out.trans Bh.out.le);have hrk:=hsr.keys_rd HP.out;dsimp only at hrk;rw [zL.out]at hrk;obtain⟨kg,rfl⟩:∃kg,ko=some ⟨kg,0,none⟩:=by
            obtain⟨g2,c2,h2,_⟩:=aF (Sat.own (hsr.focus HP.out) 0 rfl) (by show 0<m.keys.length;rw [zL.out];omega);dsimp only at h2;rw [Value.slice.injEq]at h2;exact⟨g2,h2.1⟩
          obtain⟨y0,y1,y2⟩:=aE hrk hx;simp only [Nat.zero_add]at y0 y1 y2;have hqNi:(q:Int)<(N0:Int):=by omega
          have HH:=FH hh;have HQ:=FH hq;rw [hqi];clear hh hsr hrk hpast hqi hmn hw2 hw1 hx hq;refine aH [rq 0 14,rq 1 14,rq 2 14,rq 3 14,rq 4 14,rq 5 14,rq 6 14,rq 7 14,rq 8 14,rq 9 14,rq 10 14,rq 11 14,rq 12 14,rq 13 14,(14,true,0),rq 15 999,rq 16 999] ?_;(iterate 14 (first|(refine ax rfl rfl ?_;simp only [Act.put,FI,FJ,FK,FL,FM,FN])|((first|refine ae rfl rfl (fun K hK=>?_)|refine ar rfl rfl fun K hK=>?_);go_simp;apply hK;clear hK K)));refine af rfl ?_;refine al rfl fun K hK=>?_;go_simp;refine(bT x s.hi _).mono ?_;rintro e6 w6 ⟨rfl,hk6⟩;have hk6':Kept (fun _=>False) wr w6:=((Kept.refl _ _).drew).trans hk6 (fun _ h=>h.elim);have Ao:=FH (HJ.out _ _ _ BU.out hk6');have zn:=FH (Bh.out.kept HO.out hk6');clear hk6 hk6' s0 s1 s2 s3 s4 s5 s6 s7 s8 s9 s10 m0 m1 m2 m3 mf hcell y0 y1 y2;generalize ai x s.hi=cc at yR ⊢;refine hK _ _ ?_;clear hK K;refine wpList_nil ?_;apply And.intro
          · go_simp
          (iterate 2 (first|(refine ax rfl rfl ?_;simp only [Act.put,FI,FJ,FK,FL,FM,FN])|((first|refine ae rfl rfl (fun K hK=>?_)|refine ar rfl rfl fun K hK=>?_);go_simp;apply hK;clear hK K)));refine ag ?_
          by_cases hcc:cc > 0
          · have hjn2:j=n:=by
              rcases Nat.lt_or_ge j n with h|h
              · have h1:=CK.out j h (by omega)
                rw [yR.out]at h1;simp at h1;omega
              · omega
            subst hjn2;go_wp2_with fail;go_ret;exact .inl ⟨rfl,Ao.out,zn.out.less xe.out⟩
          · have hjn2:j<n:=by
              rcases Nat.lt_or_ge j n with h|h
              · exact h
              · obtain rfl:j=n:=by omega
                rcases yc.out with h1|⟨_,h2⟩
                · omega
                · rw [yR.out]at h2
                  simp at h2;omega
            have hlen:∀p,p <+: pre++tells f j++f j→V p:=fun p hp=>Bg.out p (hp.trans (by rw [FU,←aW];exact(List.prefix_append_right_inj pre).2 (dz f (by omega))));have IHJ:=FH (yZ.out j kid hjn2 (by first|exact yC.out|(rw [Nat.zero_add];exact yC.out)) D2 BT.out _ _ Ao.out hlen zn.out);clear hlen;obtain⟨s0,s1,s2,s3,s4,s5,s6,s7,s8,s9,s10⟩:=Spn.at (s:=s) (zn.out.le _ _ zV.out);go_wp2_with ((go_at_call 85;refine IHJ.out.mono ?_;clear IHJ;rintro e7 w7 (⟨rfl,hJ7,hI7⟩|⟨rfl,q7,hq7,hx7⟩)))
            · first
              | exact⟨⟨j+1,by go_num,by omega,by rw [aW,←FU];exact hJ7,hI7⟩,by simp [intOf];omega⟩
              | skip
                refine⟨?_,?measure⟩
                · iterate 37 apply Exists.intro
                  exact⟨⟨j+1,by go_num,by omega,by rw [aW,←FU];exact hJ7,hI7⟩,rfl⟩
                case measure=>simp [intOf];omega
            · go_ret
              refine .inr ⟨rfl,tells f j++q7,?_,by rw [←FU];exact hx7⟩;have e1:=dz f (show j+1≤n by omega);rw [aW]at e1;exact((List.prefix_append_right_inj _).2 hq7).trans e1
    · have hjn2:j=n:=by omega
      subst hjn2;have CI:=FH hj;have CJ:=FH hit;have hjMi:¬(j:Int)<((M0-0:Nat):Int):=by omega
      clear hj hit;go_wp2_with fail;go_ret;exact .inl ⟨rfl,CI.out,CJ.out.less xe.out⟩
theorem rm {n₀:Nat}{Ow:World→Nat→Prop}(hO:Owner n₀ Ow){D:PH}{t l i:Nat}{V:List (Val×VT)→Prop}{T:TM}{m:NodeM}{s:Spn}{J Jx:List (Val×VT)→World→Prop}
    (hJ:∀pre W W',J pre W→Kept (fun _=>False) W W'→J pre W')
    (hi:T.nodes[i]?=some m) (hl:m.leaf=false) (hkb:m.keys.length≤1000) (hdl:m.kids.length=m.keys.length+1) (hlo:s.hasLo=true)
    (n:Nat) (f:Nat→List (Val×VT)) (hn:m.start s+n≤m.kids.length) (hgo:∀j,j<n→0<j→m.past s (m.start s+j-1)=false) (hstop:m.start s+n=m.kids.length∨(0<n∧m.past s (m.start s+n-1)=true))
    (ih:∀j kid,j<n→m.kids[m.start s+j]?=some kid→∀(D:PH),TreeP D t T→∀(pre:List (Val×VT)) (W:World),J pre W→(∀p,p <+: pre++f j→V p)→ItOk n₀ Ow D W →
      Calls Tryz.prog 85 #[.pointer (some ⟨t,0,none⟩),.int .i64 kid,s.v,.func (.yield l) #[] #[]] W fun e W' =>
      (e = .returned (.bool true)∧J (pre++f j) W'∧ItOk n₀ Ow D W')∨(e = .returned (.bool false)∧∃q,q <+: f j∧Jx (pre++q) W'))
    (hT:TreeP D t T) (pre:List (Val×VT)) (W:World) (hj:J pre W) (hN:∀p,p <+: pre++tells f n→V p) (hit:ItOk n₀ Ow D W) :
    Calls Tryz.prog 85 #[.pointer (some ⟨t,0,none⟩),.int .i64 i,s.v,.func (.yield l) #[] #[]] W fun e W' =>
      (e = .returned (.bool true)∧J (pre++tells f n) W'∧ItOk n₀ Ow D W')∨(e = .returned (.bool false)∧∃q,q <+: tells f n∧Jx (pre++q) W'):=by
  have A6:=FH hT;obtain⟨nv,fv,ns,hns,hTS⟩:=hT;obtain⟨⟨kv,vv,dv⟩,hp⟩:=aK hns hi;have hlt:=(FO.1 hp).1;obtain⟨l0,hs0⟩:=hTS W hit.le;obtain⟨g,c,rfl,_,hcm⟩:=hs0.nv_some (by omega);unfold maxLen at hcm;have hib:(i:Int)<(ns.length:Int):=by omega
  obtain⟨ko,kc,hkv⟩:=(hs0.focus hp).own_shape;obtain⟨vo,vc,hvv⟩:=(hs0.focus hp).drop.own_shape;obtain⟨dg,dc,hdv,hdc1,hdc2⟩:=aF (Sat.own (hs0.focus hp) 2 rfl) (by show 0<m.kids.length;omega);dsimp only at hkv hvv hdv hdc1;subst hkv hvv hdv;have hk1:Kept (fun _=>False) W (W.alloc (.cells s.cells tS)):=(Kept.refl _ _).alloc _;have hb1:(W.alloc (.cells s.cells tS)).heap[W.heap.size]?=some (.cells s.cells tS (0,0)):=ak W _;have xB:=FH (hit.new hO hk1 hb1 (Gn _));have xp:=FH (hit.with_le (.cells s.cells tS (0,0)) (Gn _));have wN:=FH hk1;have wL:=FH hb1;have Am:=FH hTS;have HP:=FH hp;have HO:=FH hO;have Bg:=FH hN;clear hN;have HJ:=FH hJ;have yZ:=FH ih;have Ae:=FH (hJ _ _ _ hj hk1);have HL:=FH hl;have xM:=FH hlo;have xr:=FH hns;have CK:=FH hgo;have yc:=FH hstop;have Ew:=FH hi;clear hk1 hb1 hTS hp hit hO hJ ih hj hl hs0 hns hi hlo hgo hstop;dsimp only [Spn.v];go_enter Tryz.func85,Tryz.ntmps85;go_upto_region 1 with (fail)
  obtain⟨W1,hW1⟩:∃W1,W1=W.alloc (.cells s.cells tS):=⟨_,rfl⟩;dsimp only [Spn.cells]at hW1;rw [←hW1];dsimp only [Spn.cells]at xB xp wN wL Ae;rw [←hW1]at wN wL xB Ae;generalize hD1:D.with W.heap.size (.cells #[.bool s.no,.bool s.hasLo,.bool s.openLo,.bool s.lo.t,.int .i64 s.lo.n,.string s.lo.s,.bool s.hasHi,.bool s.openHi,.bool s.hi.t,.int .i64 s.hi.n,.string s.hi.s] tS (0,0))=D1 at xB xp
  have Af:=FH (show D1 W.heap.size=some (.cells #[.bool s.no,.bool s.hasLo,.bool s.openLo,.bool s.lo.t,.int .i64 s.lo.n,.string s.lo.s,.bool s.hasHi,.bool s.openHi,.bool s.hi.t,.int .i64 s.hi.n,.string s.hi.s] tS (0,0)) by rw [←hD1];exact PH.with_self _ _ _);generalize W.heap.size=bs at wL Af ⊢;clear hW1 hD1;obtain⟨l1,hs1⟩:=Am.out W1 (xp.out.trans xB.out.le);obtain⟨t0,t1,t2,t3,t4,tf⟩:=hs1.tcells;obtain⟨n0,n1,n2,n3,nf⟩:=hs1.node_cells HP.out;dsimp only at n0 n1 n2 n3;rw [HL.out]at n0;have hb3:=((Sat.start W1).alloc #[.bool false,.slice ko m.keys.length kc,.slice vo m.vals.length vc,.slice (some ⟨dg,0,none⟩) m.kids.length dc] tN);have xL:=FH hb3;have Bt:=FH hdl;clear hs1 hb3 hdl;go_upto_region 2 with (fail)
  obtain⟨W2,hW2,hs2⟩:=xL.out.hide;rw [←hW2];have hk2:Kept (fun _=>False) W1 W2:=hs2.drop.end_ (PH.le.refl _);have hb2:=hs2.blk 0 rfl;have yY:=FH (xB.out.new HO.out hk2 hb2 (Gn _));have xe:=FH (xp.out.trans (xB.out.with_le (.cells #[.bool false,.slice ko m.keys.length kc,.slice vo m.vals.length vc,.slice (some ⟨dg,0,none⟩) m.kids.length dc] tN (0,0)) (Gn _)));have CG:=FH (HJ.out _ _ _ Ae.out hk2);generalize hD2:D1.with W1.heap.size (.cells #[.bool false,.slice ko m.keys.length kc,.slice vo m.vals.length vc,.slice (some ⟨dg,0,none⟩) m.kids.length dc] tN (0,0))=D2 at yY xe
  have zV:=FH (show D2 bs=some (.cells #[.bool s.no,.bool s.hasLo,.bool s.openLo,.bool s.lo.t,.int .i64 s.lo.n,.string s.lo.s,.bool s.hasHi,.bool s.openHi,.bool s.hi.t,.int .i64 s.hi.n,.string s.hi.s] tS (0,0)) by
    rw [←hD2];exact xB.out.with_le _ (Gn _) _ _ Af.out)
  have zm:=FH (show D2 W1.heap.size=some (.cells #[.bool false,.slice ko m.keys.length kc,.slice vo m.vals.length vc,.slice (some ⟨dg,0,none⟩) m.kids.length dc] tN (0,0)) by rw [←hD2];exact PH.with_self _ _ _);clear hD2;generalize W1.heap.size=bn at zm ⊢;clear hW2 hs2 hk2 hb2 xL wL xB xp Ae Af wN t0 t1 t2 t3 t4 tf n0 n1 n2 n3 nf;obtain⟨N0,hN0⟩:∃N0,m.keys.length=N0:=⟨_,rfl⟩;obtain⟨M0,hM0⟩:∃M0,m.kids.length=M0:=⟨_,rfl⟩;obtain⟨A,hA⟩:∃A,m.start s=A:=⟨_,rfl⟩;have hAle:=lW m s;have hMN:M0=N0+1:=by rw [←hM0,←hN0];exact Bt.out
  have zL:=FH hN0;have BS:=FH hM0;have HA:=FH hA;have DI:=FH hMN;obtain⟨s0,s1,s2,s3,s4,s5,s6,s7,s8,s9,s10⟩:=Spn.at (s:=s) (yY.out.le _ _ zV.out);obtain⟨m0,m1,m2,m3,mf⟩:=gV (yY.out.le _ _ zm.out);rw [hN0]at HP zm hkb m1 hAle;rw [hM0]at HP zm m3 hn hdc1 yc;rw [hA]at hn hAle CK yc yZ;rw [xM.out]at s1;have hAM:A≤M0:=by omega
  have hAMi:(A:Int)≤(M0:Int):=by omega
  have hMci:(M0:Int)≤(dc:Int):=by omega
  have hne:¬(dc=A):=by omega
  clear hN0 hM0 hA hMN;have BV:=FH (j4 (B:=W2) (D:=fun _=>none) s.lo Ew.out (by rw [zL.out];omega) (l:=(Am.out W2 (xe.out.trans yY.out.le)).choose) ⟨_,_,_,xr.out,(Am.out W2 (xe.out.trans yY.out.le)).choose_spec⟩);have hbA:bu m.keys s.lo=A:=by rw [←HA.out];unfold NodeM.start;rw [xM.out];rfl
  rw [hbA]at BV;clear hbA;go_upto_region 13 with ((go_at_call 102;refine BV.out.mono ?_;rintro e3 w3 ⟨rfl,hk3⟩;have zv:=FH (yY.out.kept HO.out hk3);have Br:=FH (HJ.out _ _ _ CG.out hk3);clear hk3 s0 s1 s2 s3 s4 s5 s6 s7 s8 s9 s10 m0 m1 m2 m3 mf BV))
  obtain⟨m0,m1,m2,m3,mf⟩:=gV (zv.out.le _ _ zm.out);go_wp2_with fail;clear m0 m1 m2 m3 mf
  go_loopw [60] (fun idx wr=>∃j:Nat,idx = .int .i64 j∧j≤n∧J (pre++tells f j) wr∧ItOk n₀ Ow D2 wr) (fun idx _=>n+1-(intOf idx).toNat)
  case atStart=>exact⟨0,rfl,Gp _,by simpa [tells]using Br.out,zv.out⟩
  case round =>
    obtain⟨j,rfl,hjn,hj,hit⟩:=hrel;by_cases hjM:A+j<M0
    · obtain⟨kid,hkid⟩:∃kid,m.kids[A+j]?=some kid:=⟨m.kids[A+j]'(by rw [BS.out];exact hjM),FP _⟩
      have yC:=FH hkid;obtain⟨lr,hsr⟩:=Am.out wr (xe.out.trans hit.le);have hrd:=hsr.kids_rd HP.out;dsimp only at hrd;have BT:=FH (A6.out.mono xe.out);have hcell:=bD (by rw [BS.out]at hrd;rw [BS.out];exact hrd) hkid;have hjMi:(j:Int)<((M0-A:Nat):Int):=by omega
      have hw1:IntKind.i64.wrap ((A:Int)+(j:Int))=(A:Int)+(j:Int):=sz _ (by omega) (by omega);have hw2:IntKind.i64.wrap ((A:Int)+(j:Int)-1)=(A:Int)+(j:Int)-1:=sz _ (by omega) (by omega);obtain⟨s0,s1,s2,s3,s4,s5,s6,s7,s8,s9,s10⟩:=Spn.at (s:=s) (hit.le _ _ zV.out);obtain⟨m0,m1,m2,m3,mf⟩:=gV (hit.le _ _ zm.out);have BU:=FH hj;have Bh:=FH hit;clear hsr hrd hj hit hkid;go_upto_region 17 with (fail)
      rcases Nat.eq_zero_or_pos j with hj0|hj0
      · have hjz:¬((j:Int) > 0):=by omega
        have hjz2:¬(0<j):=by omega
        have hjn2:j<n:=by rcases yc.out with h|⟨h1,_⟩<;>omega
        have Ao:=FH (HJ.out _ _ _ BU.out ((Kept.refl _ wr).drew));have zn:=FH (Bh.out.kept HO.out ((Kept.refl _ wr).drew));clear hj0;refine aH [rq 0 14,rq 1 14,rq 2 14,rq 3 14,rq 4 14,rq 5 14,rq 6 14,rq 7 14,rq 8 14,rq 9 14,rq 10 14,rq 11 14,rq 12 14,rq 13 14,(14,true,0),rq 15 999,rq 16 999] ?_;(iterate 14 (first|(refine ax rfl rfl ?_;simp only [Act.put,FI,FJ,FK,FL,FM,FN])|((first|refine ae rfl rfl (fun K hK=>?_)|refine ar rfl rfl fun K hK=>?_);go_simp;apply hK;clear hK K)));refine af rfl ?_;refine bU rfl ?_;simp only [Act.put,FI,FJ,FK];refine wpList_nil ?_;apply And.intro
        · go_simp
        (iterate 2 (first|(refine ax rfl rfl ?_;simp only [Act.put,FI,FJ,FK,FL,FM,FN])|((first|refine ae rfl rfl (fun K hK=>?_)|refine ar rfl rfl fun K hK=>?_);go_simp;apply hK;clear hK K)));refine ag ?_
        clear s0 s1 s2 s3 s4 s5 s6 s7 s8 s9 s10 m0 m1 m2 m3 mf hcell;have hlen:∀p,p <+: pre++tells f j++f j→V p:=fun p hp=>Bg.out p (hp.trans (by rw [FU,←aW];exact(List.prefix_append_right_inj pre).2 (dz f (by omega))));have IHJ:=FH (yZ.out j kid hjn2 (by first|exact yC.out|(rw [Nat.zero_add];exact yC.out)) D2 BT.out _ _ Ao.out hlen zn.out);clear hlen;obtain⟨s0,s1,s2,s3,s4,s5,s6,s7,s8,s9,s10⟩:=Spn.at (s:=s) (zn.out.le _ _ zV.out);go_wp2_with ((go_at_call 85;refine IHJ.out.mono ?_;clear IHJ;rintro e7 w7 (⟨rfl,hJ7,hI7⟩|⟨rfl,q7,hq7,hx7⟩)))
        · first
          | exact⟨⟨j+1,by go_num,by omega,by rw [aW,←FU];exact hJ7,hI7⟩,by simp [intOf];omega⟩
          | skip
            refine⟨?_,?measure⟩
            · iterate 37 apply Exists.intro
              exact⟨⟨j+1,by go_num,by omega,by rw [aW,←FU];exact hJ7,hI7⟩,rfl⟩
            case measure=>simp [intOf];omega
        · go_ret
          refine .inr ⟨rfl,tells f j++q7,?_,by rw [←FU];exact hx7⟩;have e1:=dz f (show j+1≤n by omega);rw [aW]at e1;exact((List.prefix_append_right_inj _).2 hq7).trans e1
      · have hjp:(j:Int) > 0:=by omega
        rcases (show s.hasHi=false∨s.hasHi=true by cases s.hasHi<;>simp)with hh|hh
        · rw [hh]at s6
          have hjn2:j<n:=by
            rcases yc.out with h|⟨h1,h2⟩
            · omega
            · simp [NodeM.past,hh]at h2
          have Ao:=FH (HJ.out _ _ _ BU.out ((Kept.refl _ wr).drew));have zn:=FH (Bh.out.kept HO.out ((Kept.refl _ wr).drew));have HH:=FH hh;clear hh;refine aH [rq 0 14,rq 1 14,rq 2 14,rq 3 14,rq 4 14,rq 5 14,rq 6 14,rq 7 14,rq 8 14,rq 9 14,rq 10 14,rq 11 14,rq 12 14,rq 13 14,(14,true,0),rq 15 999,rq 16 999] ?_;(iterate 14 (first|(refine ax rfl rfl ?_;simp only [Act.put,FI,FJ,FK,FL,FM,FN])|((first|refine ae rfl rfl (fun K hK=>?_)|refine ar rfl rfl fun K hK=>?_);go_simp;apply hK;clear hK K)));refine af rfl ?_;refine bU rfl ?_;simp only [Act.put,FI,FJ,FK];refine wpList_nil ?_;apply And.intro
          · go_simp
          (iterate 2 (first|(refine ax rfl rfl ?_;simp only [Act.put,FI,FJ,FK,FL,FM,FN])|((first|refine ae rfl rfl (fun K hK=>?_)|refine ar rfl rfl fun K hK=>?_);go_simp;apply hK;clear hK K)));refine ag ?_
          clear s0 s1 s2 s3 s4 s5 s6 s7 s8 s9 s10 m0 m1 m2 m3 mf hcell;have hlen:∀p,p <+: pre++tells f j++f j→V p:=fun p hp=>Bg.out p (hp.trans (by rw [FU,←aW];exact(List.prefix_append_right_inj pre).2 (dz f (by omega))));have IHJ:=FH (yZ.out j kid hjn2 (by first|exact yC.out|(rw [Nat.zero_add];exact yC.out)) D2 BT.out _ _ Ao.out hlen zn.out);clear hlen;obtain⟨s0,s1,s2,s3,s4,s5,s6,s7,s8,s9,s10⟩:=Spn.at (s:=s) (zn.out.le _ _ zV.out);go_wp2_with ((go_at_call 85;refine IHJ.out.mono ?_;clear IHJ;rintro e7 w7 (⟨rfl,hJ7,hI7⟩|⟨rfl,q7,hq7,hx7⟩)))
          · first
            | exact⟨⟨j+1,by go_num,by omega,by rw [aW,←FU];exact hJ7,hI7⟩,by simp [intOf];omega⟩
            | skip
              refine⟨?_,?measure⟩
              · iterate 37 apply Exists.intro
                exact⟨⟨j+1,by go_num,by omega,by rw [aW,←FU];exact hJ7,hI7⟩,rfl⟩
              case measure=>simp [intOf];omega
          · go_ret
            refine .inr ⟨rfl,tells f j++q7,?_,by rw [←FU];exact hx7⟩;have e1:=dz f (show j+1≤n by omega);rw [aW]at e1;exact((List.prefix_append_right_inj _).2 hq7).trans e1
        · rw [hh]at s6
          obtain⟨q,hq⟩:∃q,A+j=q+1:=⟨A+j-1,by omega⟩;have hqi:(A:Int)+(j:Int)-1=(q:Int):=by omega
          have hmn:=DI.out;have hqN:q<N0:=by omega
          obtain⟨x,hx⟩:∃x,m.keys[q]?=some x:=⟨m.keys[q]'(by rw [zL.out];exact hqN),FP _⟩;have hpast:m.past s (A+j-1)=decide (0<ai x s.hi):=by
            unfold NodeM.past;rw [hh,show A+j-1=q by omega,FW,hx]
            rfl
          have yR:=FH hpast;obtain⟨lr2,hsr⟩:=Am.out wr (xe.out.trans Bh.out.le);have hrk:=hsr.keys_rd HP.out;dsimp only at hrk;rw [zL.out]at hrk;obtain⟨kg,rfl⟩:∃kg,ko=some ⟨kg,0,none⟩:=by
            obtain⟨g2,c2,h2,_⟩:=aF (Sat.own (hsr.focus HP.out) 0 rfl) (by show 0<m.keys.length;rw [zL.out];omega);dsimp only at h2;rw [Value.slice.injEq]at h2;exact⟨g2,h2.1⟩
          obtain⟨y0,y1,y2⟩:=aE hrk hx;simp only [Nat.zero_add]at y0 y1 y2;have hqNi:(q:Int)<(N0:Int):=by omega
          have HH:=FH hh;have HQ:=FH hq;rw [hqi];clear hh hsr hrk hpast hqi hmn hw2 hw1 hx hq;refine aH [rq 0 14,rq 1 14,rq 2 14,rq 3 14,rq 4 14,rq 5 14,rq 6 14,rq 7 14,rq 8 14,rq 9 14,rq 10 14,rq 11 14,rq 12 14,rq 13 14,(14,true,0),rq 15 999,rq 16 999] ?_;(iterate 14 (first|(refine ax rfl rfl ?_;simp only [Act.put,FI,FJ,FK,FL,FM,FN])|((first|refine ae rfl rfl (fun K hK=>?_)|refine ar rfl rfl fun K hK=>?_);go_simp;apply hK;clear hK K)));refine af rfl ?_;refine al rfl fun K hK=>?_;go_simp;refine(bT x s.hi _).mono ?_;rintro e6 w6 ⟨rfl,hk6⟩;have hk6':Kept (fun _=>False) wr w6:=((Kept.refl _ _).drew).trans hk6 (fun _ h=>h.elim);have Ao:=FH (HJ.out _ _ _ BU.out hk6');have zn:=FH (Bh.out.kept HO.out hk6');clear hk6 hk6' s0 s1 s2 s3 s4 s5 s6 s7 s8 s9 s10 m0 m1 m2 m3 mf hcell y0 y1 y2;generalize ai x s.hi=cc at yR ⊢;refine hK _ _ ?_;clear hK K;refine wpList_nil ?_;apply And.intro
          · go_simp
          (iterate 2 (first|(refine ax rfl rfl ?_;simp only [Act.put,FI,FJ,FK,FL,FM,FN])|((first|refine ae rfl rfl (fun K hK=>?_)|refine ar rfl rfl fun K hK=>?_);go_simp;apply hK;clear hK K)));refine ag ?_
          by_cases hcc:cc > 0
          · have hjn2:j=n:=by
              rcases Nat.lt_or_ge j n with h|h
              · have h1:=CK.out j h (by omega)
                rw [yR.out]at h1;simp at h1;omega
              · omega
            subst hjn2;go_wp2_with fail;go_ret;exact .inl ⟨rfl,Ao.out,zn.out.less xe.out⟩
          · have hjn2:j<n:=by
              rcases Nat.lt_or_ge j n with h|h
              · exact h
              · obtain rfl:j=n:=by omega
                rcases yc.out with h1|⟨_,h2⟩
                · omega
                · rw [yR.out]at h2
                  simp at h2;omega
            have hlen:∀p,p <+: pre++tells f j++f j→V p:=fun p hp=>Bg.out p (hp.trans (by rw [FU,←aW];exact(List.prefix_append_right_inj pre).2 (dz f (by omega))));have IHJ:=FH (yZ.out j kid hjn2 (by first|exact yC.out|(rw [Nat.zero_add];exact yC.out)) D2 BT.out _ _ Ao.out hlen zn.out);clear hlen;obtain⟨s0,s1,s2,s3,s4,s5,s6,s7,s8,s9,s10⟩:=Spn.at (s:=s) (zn.out.le _ _ zV.out);go_wp2_with ((go_at_call 85;refine IHJ.out.mono ?_;clear IHJ;rintro e7 w7 (⟨rfl,hJ7,hI7⟩|⟨rfl,q7,hq7,hx7⟩)))
            · first
              | exact⟨⟨j+1,by go_num,by omega,by rw [aW,←FU];exact hJ7,hI7⟩,by simp [intOf];omega⟩
              | skip
                refine⟨?_,?measure⟩
                · iterate 37 apply Exists.intro
                  exact⟨⟨j+1,by go_num,by omega,by rw [aW,←FU];exact hJ7,hI7⟩,rfl⟩
                case measure=>simp [intOf];omega
            · go_ret
              refine .inr ⟨rfl,tells f j++q7,?_,by rw [←FU];exact hx7⟩;have e1:=dz f (show j+1≤n by omega);rw [aW]at e1;exact((List.prefix_append_right_inj _).2 hq7).trans e1
    · have hjn2:j=n:=by omega
      subst hjn2;have CI:=FH hj;have CJ:=FH hit;have hjMi:¬(j:Int)<((M0-A:Nat):Int):=by omega
      clear hj hit;go_wp2_with fail;go_ret;exact .inl ⟨rfl,CI.out,CJ.out.less xe.out⟩
end Go.Proofs.YtdobimafhbfkhaaGreat
