/- What a set's column comes to, the document's (ratlineref02.to), and what follows. -/
import Derived.Test.YtdobimafhbfkhaaGreatOY46
import Derived.Test.YtdobimafhbfkhaaGreatOY11
import Derived.Test.YtdobimafhbfkhaaGreatOY44
import Derived.Test.YtdobimafhbfkhaaGreatOY40
set_option maxHeartbeats 64000000
namespace Go.Proofs.YtdobimafhbfkhaaGreat
open Go.ChangeShapes Go.WideShapes Go.ChangeAt Go.RowKit
set_option maxRecDepth 100000
set_option linter.unusedSimpArgs false
theorem rto_ok {B w:World}{D:PH}{l:List HP}{rv:Value}{c:List Bool}{r:List Val}{s:SetM}(hr:em w rv r)(hl:r.length=c.length)(hm:bH c s=true)(fr:∀a∈r,bO a.n)(fs:bO s.v.n)(hs:Sat B D w l) :
  Calls Tryz.prog 100 #[rv,.agg s.cells.toArray] w (kQ B D l (toV r s) (toB r s)):=by
 obtain⟨W1,hW1,hs1⟩:=fu hs s.cells.toArray vZ kl tV;have hk1:Kept (fun _=>False) w W1:=by rw [hW1];exact((Kept.refl _ _).alloc _).alloc _
 have HR:=FH (Rd.kept hr hk1 (fun _ _ h=>h));have wM:=FH hW1;have wG:=FH hs1;obtain⟨-,m1,ao,cap,rfl,-⟩:=hr;obtain⟨tv,htv⟩:∃x,toV r s=x:=⟨_,rfl⟩;obtain⟨tb,htb⟩:∃x,toB r s=x:=⟨_,rfl⟩;rw [htv,htb];clear hk1 hs hW1 hs1;go_enter Tryz.func100,Tryz.ntmps100;go_upto_region 1 with fail
 rw [←wM.out];clear wM;generalize w.heap.size+1=b2 at *;generalize w.heap.size=b1 at *;obtain⟨x0,x1,x2,x3,x4,x5,x6⟩:=bP (wG.out.blk 0 rfl);unfold bH at hm;split at hm
 ·cases hm
 next hn =>
 have hk0:bK c s.col≠0:=fun e=>hn (.inr e);clear hn;by_cases hop:s.op=1
 ·have HV:=FH (show tv=s.v by rw [←htv];unfold toV;rw [if_pos hop])
  have HB:=FH (show tb=true by rw [←htb];unfold toB;rw [if_pos hop]);rw [hop]at x1;clear htv htb hm hk0 HR fr fs hl;have wH:=FH (wG.out.front 1 rfl);go_wp2_with (refine ah rfl _ _ _ rfl tV b2 rfl s.v.cells rfl vZ wH.out (by kernel_rfl) rfl (Val.one _) ?_;intro w6 hs6;have wK:=FH hs6;clear hs6 wH);refine bodyPost_ret (bZ rfl _ _ rfl (dD (aj (wK.out.blk 0 rfl)))) rfl ?_;exact⟨by rw [HB.out,HV.out];rfl,wK.out.drop.drop⟩
 rw [if_neg hop]at hm;clear hop;by_cases hop:s.op=2
 ·rw [if_pos hop]at hm
  obtain⟨k,hk,x,hx⟩:=fO hk0 (of_decide_eq_true hm) hl;have hx0:=(FO.1 hx).1;obtain⟨rg,rog,rfl⟩:=cT HR.out hx rfl;obtain⟨y0,y1,y2⟩:=aE HR.out hx;have HV:=FH (show tv=x by rw [←htv];unfold toV;rw [hop,hk,ce hx];rfl);have HB:=FH (show tb=true by rw [←htb];unfold toB;rw [hop];rfl);rw [hop]at x1;rw [hk]at x2;generalize hN:r.length=N at *;have hkN:(k:Int)<(N:Int):=by omega
  clear htv htb hm hk0 HR fr fs hx hx0 hk hN hl;have wH:=FH (wG.out.front 1 rfl);go_wp2_with (refine ah rfl _ _ _ rfl tV b2 rfl x.cells rfl vZ wH.out (by kernel_rfl) rfl (Val.one _) ?_;intro w6 hs6;have wK:=FH hs6;clear hs6 wH);refine bodyPost_ret (bZ rfl _ _ rfl (dD (aj (wK.out.blk 0 rfl)))) rfl ?_;exact⟨by rw [HB.out,HV.out];rfl,wK.out.drop.drop⟩
 rw [if_neg hop]at hm;clear hop hk0;by_cases h6:s.op=6
 ·have hop:=h6
  have e3:(s.op == 3)=false:=by simp;omega
  rw [if_neg (by omega),if_pos h6]at hm;simp at hm;rw [hop]at x1;obtain⟨k,hk,x,hx⟩:=fO (by decide) hm.1.2 hl;obtain⟨m,hm2,y,hy⟩:=fO (by decide) hm.2 hl;have fx:=fr x (FQ hx);have fy:=fr y (FQ hy);have hx0:=(FO.1 hx).1;obtain⟨rg,rog,rfl⟩:=cT HR.out hx rfl;obtain⟨y0,y1,y2⟩:=aE HR.out hx;have hy0:=(FO.1 hy).1;obtain⟨z0,z1,z2⟩:=aE HR.out hy;rw [hm2]at x3;rw [hk]at x2;have HV:=FH (show tv=eu (x.n+y.n) by rw [←htv];unfold toV toN;rw [hop,hk,hm2,ce hx,ce hy];rfl);have HB:=FH (show tb=eP (x.n+y.n) by rw [←htb];unfold toB toN;rw [hop,hk,hm2,ce hx,ce hy];rfl);have HA:=FH (show ∀w,Calls Tryz.prog 114 #[.int .i64 x.n,.int .i64 y.n] w fun e w'=>e = .returned (.tuple #[.int .i64 (eu (x.n+y.n)).n,.bool (eP (x.n+y.n))])∧Kept (fun _=>False) w w' from fun w=>sP fx fy w);generalize hN:r.length=N at *;have hkN:(k:Int)<(N:Int):=by omega
  have hmN:(m:Int)<(N:Int):=by omega
  skip
  clear HR fx hx hx0 hN hk hm htv htb fr fs hl fy hy hy0 hm2;go_upto_region 15 with fail
  refine aH [rq 0 12,rq 1 12,rq 2 12,rq 3 12,rq 4 12,rq 5 12,rq 6 12,rq 7 12,rq 8 12,rq 9 12,rq 10 12,rq 11 12,(12,true,0),rq 13 999,rq 14 999,rq 15 999,rq 16 999,rq 17 999] ?_;iterate 12 (refine ae rfl rfl fun K hK=>?_;go_simp;apply hK;clear hK K)
  refine af rfl ?_;refine al rfl fun K hK=>?_;go_simp;refine(HA.out _).mono ?_;rintro e4 w4 ⟨rfl,hk4⟩;have wO:=FH (wG.out.kept ((Kept.refl (fun _=>False) W1).drew.trans hk4 (fun _ h=>h.elim)));clear hk4 x0 x1 x2 x3 x4 x5 x6 y0 y1 y2 z0 z1 z2;refine hK _ _ ?_;clear hK K;refine wpList_nil ?_;apply And.intro
  ·go_simp
  iterate 5 (refine ae rfl rfl fun K hK=>?_;go_simp;apply hK;clear hK K)
  refine ag ?_;have wH:=FH (wO.out.front 1 rfl);go_wp2_with (refine ah rfl _ _ _ rfl tV b2 rfl (eu (x.n+y.n)).cells rfl vZ wH.out (by kernel_rfl) rfl (Val.one _) ?_;intro w6 hs6;have wK:=FH hs6;clear hs6 wH);refine bodyPost_ret (bZ rfl _ _ rfl (dD (aj (wK.out.blk 0 rfl)))) rfl ?_;exact⟨by rw [HB.out,HV.out];rfl,wK.out.drop.drop⟩
 split at hm
 ·next ho =>
  clear h6;simp at hm;obtain⟨k,hk,x,hx⟩:=fO (by decide) hm.1.1.2 hl;rcases ho with hop|hop|hop
  ·have fx:=fr x (FQ hx)
   have hx0:=(FO.1 hx).1;obtain⟨rg,rog,rfl⟩:=cT HR.out hx rfl;obtain⟨y0,y1,y2⟩:=aE HR.out hx;rw [hk]at x2;have HV:=FH (show tv=eu (x.n+s.v.n) by rw [←htv];unfold toV toN;rw [hop,hk,ce hx];rfl);have HB:=FH (show tb=eP (x.n+s.v.n) by rw [←htb];unfold toB toN;rw [hop,hk,ce hx];rfl);have HA:=FH (show ∀w,Calls Tryz.prog 114 #[.int .i64 x.n,.int .i64 s.v.n] w fun e w'=>e = .returned (.tuple #[.int .i64 (eu (x.n+s.v.n)).n,.bool (eP (x.n+s.v.n))])∧Kept (fun _=>False) w w' from fun w=>sP fx fs w);generalize hN:r.length=N at *;have hkN:(k:Int)<(N:Int):=by omega
   rw [hop]at x1;clear HR fx hx hx0 hN hk hm htv htb fr fs hl;go_upto_region 7 with fail
   refine aH [rq 0 9,rq 1 9,rq 2 9,rq 3 9,rq 4 9,rq 5 9,rq 6 9,rq 7 9,rq 8 9,(9,true,0),rq 10 999,rq 11 999,rq 12 999,rq 13 999,rq 14 999] ?_;iterate 9 (refine ae rfl rfl fun K hK=>?_;go_simp;apply hK;clear hK K)
   refine af rfl ?_;refine al rfl fun K hK=>?_;go_simp;refine(HA.out _).mono ?_;rintro e4 w4 ⟨rfl,hk4⟩;have wO:=FH (wG.out.kept ((Kept.refl (fun _=>False) W1).drew.trans hk4 (fun _ h=>h.elim)));clear hk4 x0 x1 x2 x3 x4 x5 x6 y0 y1 y2;refine hK _ _ ?_;clear hK K;refine wpList_nil ?_;apply And.intro
   ·go_simp
   iterate 5 (refine ae rfl rfl fun K hK=>?_;go_simp;apply hK;clear hK K)
   refine ag ?_;have wH:=FH (wO.out.front 1 rfl);go_wp2_with (refine ah rfl _ _ _ rfl tV b2 rfl (eu (x.n+s.v.n)).cells rfl vZ wH.out (by kernel_rfl) rfl (Val.one _) ?_;intro w6 hs6;have wK:=FH hs6;clear hs6 wH);refine bodyPost_ret (bZ rfl _ _ rfl (dD (aj (wK.out.blk 0 rfl)))) rfl ?_;exact⟨by rw [HB.out,HV.out];rfl,wK.out.drop.drop⟩
  ·have fx:=fr x (FQ hx)
   have hx0:=(FO.1 hx).1;obtain⟨rg,rog,rfl⟩:=cT HR.out hx rfl;obtain⟨y0,y1,y2⟩:=aE HR.out hx;rw [hk]at x2;have HV:=FH (show tv=eu (x.n-s.v.n) by rw [←htv];unfold toV toN;rw [hop,hk,ce hx];rfl);have HB:=FH (show tb=eP (x.n-s.v.n) by rw [←htb];unfold toB toN;rw [hop,hk,ce hx];rfl);have HA:=FH (show ∀w,Calls Tryz.prog 115 #[.int .i64 x.n,.int .i64 s.v.n] w fun e w'=>e = .returned (.tuple #[.int .i64 (eu (x.n-s.v.n)).n,.bool (eP (x.n-s.v.n))])∧Kept (fun _=>False) w w' from fun w=>rsub_ok fx fs w);generalize hN:r.length=N at *;have hkN:(k:Int)<(N:Int):=by omega
   rw [hop]at x1;clear HR fx hx hx0 hN hk hm htv htb fr fs hl;go_upto_region 10 with fail
   refine aH [rq 0 9,rq 1 9,rq 2 9,rq 3 9,rq 4 9,rq 5 9,rq 6 9,rq 7 9,rq 8 9,(9,true,0),rq 10 999,rq 11 999,rq 12 999,rq 13 999,rq 14 999] ?_;iterate 9 (refine ae rfl rfl fun K hK=>?_;go_simp;apply hK;clear hK K)
   refine af rfl ?_;refine al rfl fun K hK=>?_;go_simp;refine(HA.out _).mono ?_;rintro e4 w4 ⟨rfl,hk4⟩;have wO:=FH (wG.out.kept ((Kept.refl (fun _=>False) W1).drew.trans hk4 (fun _ h=>h.elim)));clear hk4 x0 x1 x2 x3 x4 x5 x6 y0 y1 y2;refine hK _ _ ?_;clear hK K;refine wpList_nil ?_;apply And.intro
   ·go_simp
   iterate 5 (refine ae rfl rfl fun K hK=>?_;go_simp;apply hK;clear hK K)
   refine ag ?_;have wH:=FH (wO.out.front 1 rfl);go_wp2_with (refine ah rfl _ _ _ rfl tV b2 rfl (eu (x.n-s.v.n)).cells rfl vZ wH.out (by kernel_rfl) rfl (Val.one _) ?_;intro w6 hs6;have wK:=FH hs6;clear hs6 wH);refine bodyPost_ret (bZ rfl _ _ rfl (dD (aj (wK.out.blk 0 rfl)))) rfl ?_;exact⟨by rw [HB.out,HV.out];rfl,wK.out.drop.drop⟩
  ·have fx:=fr x (FQ hx)
   have hx0:=(FO.1 hx).1;obtain⟨rg,rog,rfl⟩:=cT HR.out hx rfl;obtain⟨y0,y1,y2⟩:=aE HR.out hx;rw [hk]at x2;have HV:=FH (show tv=eu (x.n*s.v.n) by rw [←htv];unfold toV toN;rw [hop,hk,ce hx];rfl);have HB:=FH (show tb=eP (x.n*s.v.n) by rw [←htb];unfold toB toN;rw [hop,hk,ce hx];rfl);have HA:=FH (show ∀w,Calls Tryz.prog 116 #[.int .i64 x.n,.int .i64 s.v.n] w fun e w'=>e = .returned (.tuple #[.int .i64 (eu (x.n*s.v.n)).n,.bool (eP (x.n*s.v.n))])∧Kept (fun _=>False) w w' from fun w=>tL fx fs w);generalize hN:r.length=N at *;have hkN:(k:Int)<(N:Int):=by omega
   rw [hop]at x1;clear HR fx hx hx0 hN hk hm htv htb fr fs hl;go_upto_region 13 with fail
   refine aH [rq 0 9,rq 1 9,rq 2 9,rq 3 9,rq 4 9,rq 5 9,rq 6 9,rq 7 9,rq 8 9,(9,true,0),rq 10 999,rq 11 999,rq 12 999,rq 13 999,rq 14 999] ?_;iterate 9 (refine ae rfl rfl fun K hK=>?_;go_simp;apply hK;clear hK K)
   refine af rfl ?_;refine al rfl fun K hK=>?_;go_simp;refine(HA.out _).mono ?_;rintro e4 w4 ⟨rfl,hk4⟩;have wO:=FH (wG.out.kept ((Kept.refl (fun _=>False) W1).drew.trans hk4 (fun _ h=>h.elim)));clear hk4 x0 x1 x2 x3 x4 x5 x6 y0 y1 y2;refine hK _ _ ?_;clear hK K;refine wpList_nil ?_;apply And.intro
   ·go_simp
   iterate 5 (refine ae rfl rfl fun K hK=>?_;go_simp;apply hK;clear hK K)
   refine ag ?_;have wH:=FH (wO.out.front 1 rfl);go_wp2_with (refine ah rfl _ _ _ rfl tV b2 rfl (eu (x.n*s.v.n)).cells rfl vZ wH.out (by kernel_rfl) rfl (Val.one _) ?_;intro w6 hs6;have wK:=FH hs6;clear hs6 wH);refine bodyPost_ret (bZ rfl _ _ rfl (dD (aj (wK.out.blk 0 rfl)))) rfl ?_;exact⟨by rw [HB.out,HV.out];rfl,wK.out.drop.drop⟩
 ·first|cases hm|(rw [if_neg h6]at hm;cases hm)
theorem rupd_ok {B w:World}{D:PH}{l:List HP}{cv rv sv:Value}{c:List Bool}{r:List Val}{sets:List SetM}(hf:aX c r=true)(hst:cG c sets=true)(hc:vT D cv c)(hr:RowF D rv r)(hs:SetsF D sv sets)(h:Sat B D w l) :
  Calls Tryz.prog 83 #[.agg #[cv],rv,sv] w (vk B D l (cM c r sets)):=by
 obtain⟨W1,hW1,hs1⟩:=Sat.hide (h.alloc #[cv] bN);have wM:=FH hW1;have wG:=FH hs1;have HC:=FH hc;have wQ:=FH hr;have x9:=FH hs;obtain⟨X,hX⟩:∃X,cM c r sets=X:=⟨_,rfl⟩;rw [hX];have zS:=FH hX;have HF:=FH hf;have xm:=FH hst;have yK:=FH (pS (RdP.rd hc hs1) (RdP.rd hr.1 hs1));rw [hf]at yK;obtain⟨i0,his,hz0,hz1,hz2⟩:=info_parts iN;have HI:=FH (And.intro his (And.intro hz0 (And.intro hz1 hz2)));clear h hW1 hs1 hc hr hs hX hf hst his hz0 hz1 hz2;go_enter Tryz.func83,Tryz.ntmps83;go_upto_region 1 with fail
 rw [←wM.out];clear wM;generalize w.heap.size=bt at wG ⊢;obtain⟨b0,bf⟩:=aC (wG.out.blk 0 rfl);go_upto_region 4 with (go_at_call 27;refine yK.out.mono ?_;rintro e1 w1 ⟨rfl,hk2⟩;have wJ:=FH (wG.out.kept hk2);clear hk2 b0 bf wG)
 clear yK;obtain⟨b0,bf⟩:=aC (wJ.out.blk 0 rfl);have xF:=FH (lM (cd HF.out).2 (RdP.rd HC.out wJ.out) (RdP.rd x9.out.1 wJ.out));rw [xm.out]at xF;go_upto_region 8 with (go_at_call 28;refine xF.out.mono ?_;rintro e1 w2 ⟨rfl,hk2⟩;have wI:=FH ((wJ.out.kept hk2).own_nil tV 3);clear hk2 b0 bf wJ)
 clear xF;have hrlen:r.length≤4:=by have h1:=cd HF.out;have h2:=h1.2;unfold cj at h2;simp at h2;omega
 have hrpos:1≤r.length:=by have h1:=cd HF.out;have h2:=h1.2;unfold cj at h2;simp at h2;omega
 have xD:=FH (RdP.rd wQ.out.1 wI.out);obtain⟨M,hM⟩:∃M,r.length=M:=⟨_,rfl⟩;have HM:=FH hM;rw [hM]at xD hrlen hrpos;go_upto_region 9 with (at_builtin;refine az _ rfl _ _ 26 rfl tV i0 _ 3 32 Tryz.underlying26 HI.out.1 HI.out.2.1 HI.out.2.2.1 HI.out.2.2.2 rfl _ 0 _ rfl wI.out _ M _ rfl xD.out (by intro u hu;obtain⟨x,_,hx⟩:=Gi.1 hu;exact Val.one x u hx) (by unfold maxLen;omega) (by omega) ?_;intro v4 w4 hs4 h14;rw [Nat.zero_add,List.nil_append]at hs4;obtain⟨ao,cap,rfl⟩:=hs4.own_shape;have wO:=FH hs4;clear hs4 h14 wI xD)
 obtain⟨g,rfl⟩:∃g,ao=some ⟨g,0,none⟩:=by
  rcases (wO.out.own 0 rfl).2.2 with ⟨h1,h2⟩|⟨g,c2,cur,h1,_⟩
  ·omega
  ·cases h1;exact⟨g,rfl⟩
 obtain⟨-,m2,so,scap,rfl,-⟩:=RdP.rd x9.out.1 wO.out;unfold maxLen at m2;obtain⟨N,hN⟩:∃N,sets.length=N:=⟨_,rfl⟩;have HN:=FH hN;have wW:=FH (show RdP D 7 (.slice so N scap) N (sets.flatMap SetM.cells)from hN▸x9.out.1);have xW:=FH x9.out.2;rw [hN]at m2 x9 ⊢;have EU:=FH (show N≤3 by have:=(gg xm.out).1;omega);clear hN hM x9;go_wp2_with fail
 go_loopw [11] (fun idx wr=>∃(j:Nat) (o:List Val),idx = .int .i64 j∧j≤N∧fI r (sets.take j) r=some o∧o.length=M∧bG o∧Sat B D wr (aD tV 3 (.slice (some ⟨g,0,none⟩) M cap) M (o.flatMap Val.cells)::blk bt #[cv] bN::l)) (fun idx _=>N-(intOf idx).toNat)
 case atStart=>exact⟨0,r,rfl,Gp _,rfl,HM.out,wQ.out.2,wO.out⟩
 case round =>
  obtain⟨j,o,rfl,hj,hu,hol,hof,hs⟩:=hrel;have HU:=FH hu;have BM:=FH hol;have CB:=FH hof;have HS:=FH hs;clear hu hol hof hs wO;by_cases hlt:j<N
  ·obtain⟨x,hx⟩:∃x,sets[j]?=some x:=⟨sets[j]'(by rw [HN.out];exact hlt),FP _⟩
   have HX:=FH (show sets.take (j+1)=sets.take j ++ [x] by rw [F3,hx];rfl);have hmay:=(gg xm.out).2 x (FQ hx);have CC:=FH (xW.out x (FQ hx));have hcol:=kr (cd HF.out).2 hmay;obtain⟨k,hk⟩:∃k:Nat,x.col=(k:Int):=⟨x.col.toNat,by omega⟩;have Fq:=FH hx;obtain⟨g1,o1,rfl,hr1⟩:=bi SetM.len (wW.out.rd HS.out) hx HN.out;have zj:=FH (lD hr1);have HK:=FH hk;have hkM:k<M:=by
    have h1:=cd HF.out;have h2:=qH hmay;rw [HM.out]at h1;omega
   have Ai:=FH (rto_ok (RdP.rd wQ.out.1 HS.out) (cd HF.out).1 hmay (fun a ha=>(wQ.out.2 a ha).1) CC.out.1 HS.out);have hjN:(j:Int)<(N:Int):=by omega
   clear hx hmay hr1 hk hcol;cases hb:toB r x
   ·rw [hb]at Ai
    have yw:=FH (nD (out:=r) (j+1) (by rw [HX.out,fz,HU.out,mh,hb];rfl));obtain rfl:X=([],21):=zS.out.symm.trans (oF HF.out xm.out yw.out);clear hb;go_wp2_with (first|(refine aV rfl _ _ rfl _ _ rfl _ zj.out ?_)|(go_at_call 100;refine Ai.out.mono ?_;rintro e5 w5 ⟨rfl,hs6⟩;have wK:=FH hs6;clear hs6 Ai HS zj)|(refine cI rfl _ _ _ rfl (toV r x).cells _ _ rfl rfl (by kernel_rfl) rfl (Val.one _) ?_))
    go_ret2
    exact⟨_,rfl,(fun _ h=>by cases h),(((wK.out.alloc (toV r x).cells.toArray tV).drop.drop.drop).own_nil tV 3)⟩
   ·rw [hb]at Ai
    have BN:=FH (show fI r (sets.take (j+1)) r=some (o.set k (toV r x)) by rw [HX.out,fz,HU.out,mh,hb,HK.out];rfl);have Cp:=FH (pg wQ.out.2 CC.out);clear hb;have hkM2:(k:Int)<(M:Int):=by omega
    go_upto_region 13 with (first|(refine aV rfl _ _ rfl _ _ rfl _ zj.out ?_)|(go_at_call 100;refine Ai.out.mono ?_;rintro e5 w5 ⟨rfl,hs6⟩;have wK:=FH (hs6.alloc (toV r x).cells.toArray tV);clear hs6 Ai HS zj)|(refine cI rfl _ _ _ rfl (toV r x).cells _ _ rfl rfl (by kernel_rfl) rfl (Val.one _) ?_))
    obtain⟨W6,hW6⟩:∃W,W=w5.alloc (.cells (toV r x).cells.toArray tV):=⟨_,rfl⟩;rw [←hW6]at wK ⊢;generalize w5.heap.size=bv at wK ⊢;clear hW6;go_upto_region 15 with fail
    have yW:=FH (dD (aj (wK.out.drew.blk 0 rfl)));obtain⟨g2,o2,e2,hr2⟩:=bi SetM.len (wW.out.rd wK.out.drew) Fq.out HN.out;cases e2;have x0:=hr2 0 _ rfl;rw [Nat.add_zero,HK.out]at x0;have wH:=FH (wK.out.drew.drop);clear wK hr2;refine aH [rq 0 8,rq 1 8,rq 2 8,rq 3 8,rq 4 8,rq 5 8,rq 6 8,rq 7 8,(8,true,0)] ?_;(iterate 8 (refine ae rfl rfl fun K hK=>?_;(first|((refine bF _ _ rfl _ _ rfl _ yW.out ?_);go_simp)|go_simp);apply hK;clear hK K));refine af rfl ?_;refine fM Val.len Val.one rfl _ _ _ rfl tV g _ k M cap rfl (by omega) (toV r x) rfl o wH.out (by kernel_rfl) hkM BM.out ?_;intro w7 hs7;have wP:=FH hs7;clear hs7 wH yW x0;refine wpList_nil ?_;apply And.intro
    ·go_simp
    refine ag ?_;go_wp2_with fail;go_roundw
    case rel=>exact⟨j+1,_,by go_num,by omega,BN.out,by rw [FV];exact BM.out,pE CB.out Cp.out,wP.out⟩
    case measure=>simp [intOf];omega
  ·obtain rfl:j=N:=by omega
   have hjN:¬((j:Int)<(j:Int)):=by omega
   have BN:=FH (show fI r sets r=some o by rw [←HU.out,FS (Nat.le_of_eq HN.out)]);obtain rfl:X=(o,0):=zS.out.symm.trans (pB HF.out xm.out BN.out);go_wp2_with fail
   go_ret2
   exact⟨_,rfl,CB.out,by rw [BM.out];exact(HS.out.swap.drop)⟩
structure RowsH (D:PH)(hs:List Value)(m:aq):Prop where
 len:hs.length=m.length
 one:∀u∈hs,u.oneCell'=true
 each:∀(i:Nat) (h:Value) (r:List Val),hs[i]?=some h→m[i]?=some r→RowF D h r
theorem RowsH.nil (D:PH):RowsH D [] []:=⟨rfl,by simp,by simp⟩
theorem RowsH.mono {D D':PH}(le:PH.le D D'){hs:List Value}{m:aq}(h:RowsH D hs m):RowsH D' hs m:=⟨h.len,h.one,fun i a r h1 h2=>(h.each i a r h1 h2).mono le⟩
theorem RowsH.snoc {D:PH}{hs:List Value}{m:aq}{h:Value}{r:List Val}(hh:RowsH D hs m)(hr:RowF D h r):RowsH D (hs ++ [h]) (m ++ [r]):=by
 refine⟨by rw [FR,FR,hh.len];rfl,fun u hu=>?_,fun i a b h1 h2=>?_⟩
 ·rcases F2.1 hu with hu|hu
  ·exact hh.one u hu
  ·obtain rfl:=List.mem_singleton.1 hu
   exact RdP.oneV hr.1
 ·by_cases hi:i<hs.length
  ·rw [Gm hi]at h1
   rw [Gm (by rw [←hh.len];exact hi)]at h2;exact hh.each i a b h1 h2
  ·have hi2:i=hs.length:=by have:=(FO.1 h1).1;rw [FR,Gh]at this;omega
   subst hi2;rw [Gb (Gn _),Nat.sub_self]at h1;rw [hh.len,Gb (Gn _),Nat.sub_self]at h2;cases h1;cases h2;exact hr
theorem RowsH.give {B w:World}{D:PH}{l:List HP}{v:Value}{n:Nat}{hs:List Value}{m:aq}(hh:RowsH D hs m)(hn:n=m.length)(h:Sat B D w (aD tW 1 v n hs::l)):∃D',PH.le D D'∧RowsF D' v m∧Sat B D' w l:=by
 obtain⟨D',le,hr,hs'⟩:=h.own_give;rw [hn]at hr;refine⟨D',le,⟨⟨hs,hh.len,hh.one,hr,fun i a r h1 h2=>((hh.mono le).each i a r h1 h2).1⟩,fun r hr=>?_⟩,hs'⟩;obtain⟨i,hi⟩:=List.getElem?_of_mem hr;have hlt:i<hs.length:=by rw [hh.len];exact(FO.1 hi).1
 exact(hh.each i _ r (FP hlt) hi).2
theorem gm {B w:World}{D:PH}{l:List HP}{va:Option Addr}{n c i:Nat}{m:aq}{r:List Val}(hm:RowsF D (.slice va n c) m)(hr:m[i]?=some r)(hp:0<r.length)(h:Sat B D w l) :
  ∃g og rg rog rc,va=some ⟨g,og,none⟩∧RowF D (.slice (some ⟨rg,rog,none⟩) r.length rc) r∧∀W L,Sat B D W L→W.cell? ⟨g,og+i,none⟩=some (.slice (some ⟨rg,rog,none⟩) r.length rc)∧W.cell? ⟨rg,rog,none⟩=some (.bool (au r).t)∧W.cell? ⟨rg,rog+1,none⟩=some (.int .i64 (au r).n)∧W.cell? ⟨rg,rog+2,none⟩=some (.string (au r).s):=by
 have h0:r[0]?=some (au r):=by cases r with|nil=>cases hp|cons a t=>rfl
 obtain⟨hs,h1,h2,h3,h4⟩:=id hm.1;have hlt:=(FO.1 hr).1;obtain⟨u,hu⟩:∃u,hs[i]?=some u:=⟨hs[i]'(by omega),FP _⟩;have hrow:=h4 i u r hu hr;obtain⟨_,_,ao,rc,rfl,_⟩:=id hrow;obtain⟨rg,rog,rfl⟩:=cT (RdP.rd hrow h) h0 rfl;have hcell:∀W L,Sat B D W L→∃g og,va=some ⟨g,og,none⟩∧W.cell? ⟨g,og+i,none⟩=some (.slice (some ⟨rg,rog,none⟩) r.length rc):=fun W L hs=>by
  obtain⟨_,_,_,_,hv,_,_,_,hc⟩:=h3.rd hs;cases hv;rcases hc with h0|⟨g,o,hg,hcc⟩
  ·omega
  ·exact⟨g,o,hg,hcc i _ hu⟩
 obtain⟨g,og,hg,_⟩:=hcell w l h;refine⟨g,og,rg,rog,rc,hg,⟨hrow,hm.2 r (FQ hr)⟩,fun W L hs=>?_⟩;obtain⟨g2,og2,hg2,hc⟩:=hcell W L hs;rw [hg]at hg2;cases hg2;obtain⟨y0,y1,y2⟩:=aE (h:=0) (RdP.rd hrow hs) h0;rw [Nat.zero_mul,Nat.add_zero]at y0 y1 y2;exact⟨hc,y0,y1,y2⟩
def FindAns (B:World)(D:PH)(l:List HP)(q:Option (List Val))(e:Ending)(w':World):Prop:=∃ra rn rc,e = .returned (.slice ra rn rc)∧RowF D (.slice ra rn rc) (q.getD [])∧Sat B D w' l
theorem find_at {m:aq}{p:List Val→Bool}{i:Nat}{r:List Val}(h:(m.take i).find? p=none)(hr:m[i]?=some r)(hp:p r=true):m.find? p=some r:=by
 have hlt:=(FO.1 hr).1;have e:m=m.take i++r::m.drop (i+1):=by
  conv=>lhs;rw [←Gj i m,List.drop_eq_getElem_cons hlt]
  rw [(FO.1 hr).2]
 rw [e,List.find?_append,h,List.find?_cons,hp]
 rfl
theorem jG {B w:World}{D:PH}{l:List HP}{va:Option Addr}{vn vc:Nat}{m:aq}{k:Val}(hm:RowsF D (.slice va vn vc) m)(hp:∀r∈m,0<r.length)(h:Sat B D w l) :
  Calls Tryz.prog 55 #[.slice va vn vc,k.v] w (FindAns B D l (aP m k)):=by
 obtain rfl:vn=m.length:=cK hm;obtain⟨W1,hW1,hs1⟩:=Sat.hide (h.alloc #[.bool k.t,.int .i64 k.n,.string k.s] tV);have hml:m.length≤9223372036854775807:=by obtain⟨_,_,_,h3,_⟩:=hm.1;exact h3.len
 obtain⟨N,hN⟩:∃N,m.length=N:=⟨_,rfl⟩;have HN:=FH hN;rw [hN]at hm hml ⊢;have wM:=FH hW1;have wG:=FH hs1;have HM:=FH hm;have HP:=FH hp;clear h hW1 hs1 hm hp hN;go_enter Tryz.func55,Tryz.ntmps55;go_upto_region 1 with fail
 rw [←wM.out];clear wM;generalize w.heap.size=bk at wG ⊢;go_wp2_with fail
 go_loopw [5] (fun iv wr=>∃i:Nat,iv = .int .i64 i∧i≤N∧(m.take i).find? (fun r=>decide (au r=k))=none∧Sat B D wr (blk bk #[.bool k.t,.int .i64 k.n,.string k.s] tV::l)) (fun iv _=>N-(intOf iv).toNat)
 case atStart=>exact⟨0,rfl,Gp _,rfl,wG.out⟩
 case round =>
  obtain⟨i,rfl,hi,hno,hsat⟩:=hrel;have yw:=FH hno;have wW:=FH hsat;clear hno hsat wG;by_cases hlt:i<N
  ·have hii:(i:Int)<(N:Int):=by omega
   obtain⟨r,hr⟩:∃r,m[i]?=some r:=⟨m[i]'(by rw [HN.out];exact hlt),FP _⟩;obtain⟨g,og,rg,rog,rc,rfl,hrow,hc⟩:=gm HM.out hr (HP.out r (FQ hr)) wW.out;obtain⟨c0,c1,c2,c3⟩:=hc _ _ wW.out.drew;obtain⟨k0,k1,k2,kf⟩:=aQ (wW.out.drew.blk 0 rfl);have hpos:=HP.out r (FQ hr);have hpi:(0:Int)<(r.length:Int):=by omega
   have HR:=FH hr;have xT:=FH hrow;clear hc hr hrow;go_upto_region 4 with fail
   by_cases hk:au r=k
   ·have HF:=FH (show aP m k=some r from find_at yw.out HR.out (F5 hk))
    rw [hk]at c1 c2 c3;clear hk;refine aH [rq 0 999,rq 1 999,rq 2 999,rq 3 999,rq 4 999,rq 5 999,rq 6 999,rq 7 999] ?_;(iterate 8 (refine ae rfl rfl fun K hK=>?_;go_simp;apply hK;clear hK K));refine ag ?_;go_wp2_with fail;go_ret;refine⟨_,_,_,rfl,?_,wW.out.drew.drop⟩;rw [HF.out];exact xT.out
   ·have hv:eC (au r).t (au r).n (au r).s k.t k.n k.s=false:=by rw [jz];exact FY hk
    have De:=FH (show(m.take (i+1)).find? (fun r=>decide (au r=k))=none by
     rw [F3,HR.out,Option.toList_some,List.find?_append,yw.out,List.find?_cons,FY hk]
     rfl)
    clear hk;refine aH [rq 0 999,rq 1 999,rq 2 999,rq 3 999,rq 4 999,rq 5 999,rq 6 999,rq 7 999] ?_;(iterate 8 (refine ae rfl rfl fun K hK=>?_;go_simp;apply hK;clear hK K));refine ag ?_;go_wp2_with fail;go_roundw
    case rel=>exact⟨i+1,by go_num,by omega,De.out,wW.out.drew⟩
    case measure=>simp [intOf];omega
  ·obtain rfl:i=N:=by omega
   have hii:¬((i:Int)<(i:Int)):=by omega
   have HF:=FH (show aP m k=none by unfold aP;rw [←yw.out,FS (Nat.le_of_eq HN.out)]);go_wp2_with fail;go_ret;refine⟨none,0,0,rfl,?_,wW.out.drop⟩;rw [HF.out];exact⟨RdP.nil _ _,fun v hv=>by cases hv⟩
def lX (B:World)(D:PH)(l:List HP)(ms:aq)(e:Ending)(w':World):Prop:=∃a n cc D',e = .returned (.slice a n cc)∧PH.le D D'∧RowsF D' (.slice a n cc) ms∧Sat B D' w' l
theorem del_eq {m:aq}{k:Val}(hm:∀r∈m,am (au r)=true)(hk:am k=true):cR m k=m.filter (fun q=>!decide (au q=k)):=by
 unfold cR;refine List.filter_congr fun q hq=>?_;by_cases h:au q=k
 ·rw [F5 h,h,dd];rfl
 ·rw [FY h,FY (fun h0=>h (jm (hm q hq) hk h0))]
theorem kM {B w:World}{D:PH}{l:List HP}{va:Option Addr}{vn vc:Nat}{m:aq}{k:Val}(hm:RowsF D (.slice va vn vc) m)(hp:∀r∈m,0<r.length)(hmr:∀r∈m,am (au r)=true)(hk:am k=true)(hn:m.length≤1000)(h:Sat B D w l) :
  Calls Tryz.prog 60 #[.slice va vn vc,k.v] w (lX B D l (cR m k)):=by
 obtain rfl:vn=m.length:=cK hm;rw [del_eq hmr hk];obtain⟨W1,hW1,hs1⟩:=Sat.hide (h.alloc #[.bool k.t,.int .i64 k.n,.string k.s] tV);obtain⟨N,hN⟩:∃N,m.length=N:=⟨_,rfl⟩;have HN:=FH hN;rw [hN]at hm hn ⊢;obtain⟨i0,his,hz0,hz1,hz2⟩:=info_parts gu;have HI:=FH (And.intro his (And.intro hz0 (And.intro hz1 hz2)));have wM:=FH hW1;have wG:=FH (hs1.own_nil tW 1);have HM:=FH hm;have HP:=FH hp;clear h hW1 hs1 hm hp hN hmr hk his hz0 hz1 hz2;go_enter Tryz.func60,Tryz.ntmps60;go_upto_region 1 with fail
 rw [←wM.out];clear wM;generalize w.heap.size=bk at wG ⊢;go_wp2_with fail
 go_loopw [5,6] (fun ov iv wr=>∃(i j:Nat) (oa:Option Addr) (oc:Nat) (hs:List Value),ov = .slice oa j oc∧iv = .int .i64 i∧i≤N∧j≤i∧j=((m.take i).filter (fun q=>!decide (au q=k))).length∧RowsH D hs ((m.take i).filter (fun q=>!decide (au q=k)))∧Sat B D wr (aD tW 1 (.slice oa j oc) j hs::blk bk #[.bool k.t,.int .i64 k.n,.string k.s] tV::l)) (fun _ iv _=>N-(intOf iv).toNat)
 case atStart=>exact⟨0,0,none,0,[],rfl,rfl,Gp _,Gn _,rfl,RowsH.nil D,wG.out⟩
 case round =>
  obtain⟨i,j,oa,oc,hs,rfl,rfl,hi,hj,hjl,hh,hsat⟩:=hrel;have zr:=FH hjl;have HH:=FH hh;have wW:=FH hsat;clear hjl hh hsat wG;by_cases hlt:i<N
  ·have hii:(i:Int)<(N:Int):=by omega
   obtain⟨r,hr⟩:∃r,m[i]?=some r:=⟨m[i]'(by rw [HN.out];exact hlt),FP _⟩;obtain⟨g,og,rg,rog,rc,rfl,hrow,hc⟩:=gm HM.out hr (HP.out r (FQ hr)) wW.out;obtain⟨c0,c1,c2,c3⟩:=hc _ _ wW.out.drew;obtain⟨k0,k1,k2,kf⟩:=aQ (wW.out.drew.blk 1 rfl);have hpos:=HP.out r (FQ hr);have hpi:(0:Int)<(r.length:Int):=by omega
   have ym:=FH (show(m.take (i+1)).filter (fun q=>!decide (au q=k))=(m.take i).filter (fun q=>!decide (au q=k))++(if au r=k then []else [r]) by
    rw [F3,hr,Option.toList_some,List.filter_append];by_cases h0:au r=k<;>simp [h0])
   have xT:=FH hrow;clear hc hr hrow;go_upto_region 5 with fail
   by_cases hk:au r=k
   ·rw [hk]at c1 c2 c3
    have zQ:=FH (ym.out.trans (by rw [if_pos hk,List.append_nil]));clear hk;refine aH [rq 0 999,rq 1 999,rq 2 999,rq 3 999,rq 4 999,rq 5 999,rq 6 999,rq 7 999] ?_;(iterate 8 (refine ae rfl rfl fun K hK=>?_;go_simp;apply hK;clear hK K));refine ag ?_;go_wp2_with fail;go_roundw
    case rel=>exact⟨i+1,j,oa,oc,hs,rfl,by go_num,by omega,by omega,by rw [zQ.out];exact zr.out,by rw [zQ.out];exact HH.out,wW.out.drew⟩
    case measure=>simp [intOf];omega
   ·have hv:eC (au r).t (au r).n (au r).s k.t k.n k.s=false:=by rw [jz];exact FY hk
    have zQ:=FH (ym.out.trans (by rw [if_neg hk]));have xa:=FH ((wW.out.drew.alloc #[.slice (some ⟨rg,rog,none⟩) r.length rc] tW).front 1 rfl);have wQ:=FH (bC (size:=1) (n:=1) (ak wr.drew (.cells #[.slice (some ⟨rg,rog,none⟩) r.length rc] tW)) rfl (by unfold maxLen;omega));clear hk;refine aH [rq 0 999,rq 1 999,rq 2 999,rq 3 999,rq 4 999,rq 5 999,rq 6 999,rq 7 999] ?_;(iterate 8 (refine ae rfl rfl fun K hK=>?_;go_simp;apply hK;clear hK K));refine ag ?_;clear wW;go_wp2_with (at_builtin;refine az _ rfl _ _ tRs rfl tW i0 _ 1 24 Tryz.underlying55 HI.out.1 HI.out.2.1 HI.out.2.2.1 HI.out.2.2.2 rfl _ j _ rfl xa.out _ 1 _ rfl wQ.out (by intro u hu;simp at hu;subst hu;rfl) (by unfold maxLen;omega) (by omega) ?_;intro v7 w7 hs7 h17;obtain⟨qa,qc,rfl⟩:=hs7.own_shape;have wP:=FH (hs7.swap.drop);clear hs7 h17 xa wQ);go_roundw
    case rel=>exact⟨i+1,j+1,qa,qc,hs ++ [.slice (some ⟨rg,rog,none⟩) r.length rc],rfl,by go_num,by omega,by omega,by rw [zQ.out,FR,←zr.out];rfl,by rw [zQ.out];exact HH.out.snoc xT.out,wP.out⟩
    case measure=>simp [intOf];omega
  ·obtain rfl:i=N:=by omega
   have hii:¬((i:Int)<(i:Int)):=by omega
   have hall:m.take i=m:=FS (Nat.le_of_eq HN.out);rw [hall]at HH zr;obtain⟨D',le,hrf,hs9⟩:=HH.out.give zr.out wW.out;have HF:=FH (show lX B D l (m.filter (fun q=>!decide (au q=k))) (.returned (.slice oa j oc)) wr from⟨oa,j,oc,D',rfl,le,hrf,hs9.drop⟩);clear hall le hrf hs9 wW;go_wp2_with fail;go_ret;exact HF.out
def PutI (m:aq)(r:List Val)(i:Nat)(dn:Bool)(ms:aq):Prop :=
 if dn then ms=(m.take i).filter (ltR (au r))++r::(m.take i).filter (gtR (au r))∧∃q∈m.take i,0≤ai (au q) (au r)else ms=m.take i∧∀q∈m.take i,ai (au q) (au r)<0
section
variable {m ms : aq} {r q : List Val} {i : Nat}
theorem rk (h:∀q∈m,ai (au q) (au r)<0):m.filter (ltR (au r))=m∧m.filter (gtR (au r)) = [] :=
 ⟨List.filter_eq_self.2 fun q hq=>F5 (h q hq),List.filter_eq_nil_iff.2 fun q hq=>by have:=h q hq;unfold gtR;rw [decide_eq_true_eq];omega⟩
theorem PutI.less (h:PutI m r i false ms)(hq:m[i]?=some q)(hc:ai (au q) (au r)<0):PutI m r (i+1) false (ms ++ [q]):=by
 obtain⟨h1,h2⟩:=h;refine⟨by rw [F3,hq,h1];rfl,fun p hp=>?_⟩;rw [F3,hq]at hp;rcases F2.1 hp with hp|hp
 ·exact h2 p hp
 ·obtain rfl:=List.mem_singleton.1 hp;exact hc
theorem PutI.here (h:PutI m r i false ms)(hq:m[i]?=some q)(hc:ai (au q) (au r)=0):PutI m r (i+1) true (ms ++ [r]):=by
 obtain⟨h1,h2⟩:=h;obtain⟨a1,a2⟩:=rk h2;have e1:ltR (au r) q=false:=FY (by omega);have e2:gtR (au r) q=false:=FY (by omega);refine⟨?_,q,by rw [F3,hq];simp,by omega⟩;rw [F3,hq,Option.toList_some,List.filter_append,List.filter_append,a1,a2,h1];simp [e1,e2]
theorem PutI.above (h:PutI m r i false ms)(hq:m[i]?=some q)(hc:0<ai (au q) (au r)):PutI m r (i+1) true ((ms ++ [r]) ++ [q]):=by
 obtain⟨h1,h2⟩:=h;obtain⟨a1,a2⟩:=rk h2;have e1:ltR (au r) q=false:=FY (by omega);have e2:gtR (au r) q=true:=F5 hc;refine⟨?_,q,by rw [F3,hq];simp,by omega⟩;rw [F3,hq,Option.toList_some,List.filter_append,List.filter_append,a1,a2,h1];simp [e1,e2]
theorem PutI.later (hs:bh (dV m))(h:PutI m r i true ms)(hq:m[i]?=some q):0<ai (au q) (au r)∧PutI m r (i+1) true (ms ++ [q]):=by
 obtain⟨h1,p,hp,hpc⟩:=h;obtain⟨j,hj⟩:=List.getElem?_of_mem hp;have hji:j<i:=by have:=(FO.1 hj).1;rw [F0]at this;omega
 have hj2:m[j]?=some p:=by rw [List.getElem?_take,if_pos hji]at hj;exact hj
 have hlt:ai (au p) (au q)<0:=by
  have a:(dV m)[j]?=some (o8 p):=by unfold dV;rw [Gg,hj2];rfl
  have b:(dV m)[i]?=some (o8 q):=by unfold dV;rw [Gg,hq];rfl
  have a1:=FO.1 a;have b1:=FO.1 b;have:=List.pairwise_iff_getElem.1 hs j i a1.1 b1.1 hji;rw [a1.2,b1.2]at this;exact this
 have hc:0<ai (au q) (au r):=by
  have e1:=cW (au p) (au q);have e2:=cW (au p) (au r);have e3:=cW (au q) (au r);have:ai (au r) (au q)<0:=jN (by omega) hlt;omega
 have e1:ltR (au r) q=false:=FY (by omega);have e2:gtR (au r) q=true:=F5 hc;refine⟨hc,?_,p,by rw [F3];exact List.mem_append_left _ hp,hpc⟩;rw [F3,hq,Option.toList_some,List.filter_append,List.filter_append,h1];simp [e1,e2]
theorem PutI.fin {dn:Bool}(h:PutI m r m.length dn ms):(if dn then ms else ms ++ [r])=cw m r:=by
 cases dn with
 | true =>
  obtain⟨h1,_⟩:=h;rw [List.take_length]at h1;exact h1
 | false =>
  obtain⟨h1,h2⟩:=h;rw [List.take_length]at h1 h2;obtain⟨a1,a2⟩:=rk h2;rw [iW,a1,a2,h1]
  rfl
end
theorem sG {B w:World}{D:PH}{l:List HP}{va:Option Addr}{vn vc:Nat}{rv:Value}{m:aq}{r:List Val}(hm:RowsF D (.slice va vn vc) m)(hr:RowF D rv r)(hp:∀q∈m,0<q.length)(hr0:0<r.length)(hso:bh (dV m))(hn:m.length≤1000)(h:Sat B D w l) :
  Calls Tryz.prog 57 #[.slice va vn vc,rv] w (lX B D l (cw m r)):=by
 obtain rfl:vn=m.length:=cK hm;obtain⟨_,_,ra,sc,rfl,_⟩:=id hr.1;have h0:r[0]?=some (au r):=by cases r with|nil=>cases hr0|cons a t=>rfl
 obtain⟨sg,sog,rfl⟩:=cT (RdP.rd hr.1 h) h0 rfl;obtain⟨N,hN⟩:∃N,m.length=N:=⟨_,rfl⟩;have HN:=FH hN;rw [hN]at hm hn ⊢;obtain⟨i0,his,hz0,hz1,hz2⟩:=info_parts gu;have HI:=FH (And.intro his (And.intro hz0 (And.intro hz1 hz2)));have wG:=FH (h.own_nil tW 1);have HM:=FH hm;have HP:=FH hp;have HR:=FH hr;have Fr:=FH hso;have BP:=FH (show ∀W L,Sat B D W L→W.cell? ⟨sg,sog,none⟩=some (.bool (au r).t)∧W.cell? ⟨sg,sog+1,none⟩=some (.int .i64 (au r).n)∧W.cell? ⟨sg,sog+2,none⟩=some (.string (au r).s)from fun W L hs=>by
  obtain⟨y0,y1,y2⟩:=aE (h:=0) (RdP.rd HR.out.1 hs) h0;rw [Nat.zero_mul,Nat.add_zero]at y0 y1 y2;exact⟨y0,y1,y2⟩)
 have Bx:=FH (show(au r).fits from(hr.2 _ (FQ h0)).2);have hri:(0:Int)<(r.length:Int):=by omega
 clear h hm hp hN hr hso h0 his hz0 hz1 hz2;go_enter Tryz.func57,Tryz.ntmps57;go_wp2_with fail
 go_loopw [5,6,7] (fun ov dv iv wr=>∃(i j:Nat) (dn:Bool) (oa:Option Addr) (oc:Nat) (hs:List Value) (ms:aq),ov = .slice oa j oc∧dv = .bool dn∧iv = .int .i64 i∧i≤N∧j≤i+1∧j=ms.length∧PutI m r i dn ms∧RowsH D hs ms∧Sat B D wr (aD tW 1 (.slice oa j oc) j hs::l)) (fun _ _ iv _=>N-(intOf iv).toNat)
 case atStart=>exact⟨0,0,false,none,0,[],[],rfl,rfl,rfl,Gp _,Gp _,rfl,⟨rfl,fun q hq=>by cases hq⟩,RowsH.nil D,wG.out⟩
 case round =>
  obtain⟨i,j,dn,oa,oc,hs,ms,rfl,rfl,rfl,hi,hj,hjl,hput,hh,hsat⟩:=hrel;have zr:=FH hjl;have Cx:=FH hput;have HH:=FH hh;have wW:=FH hsat;clear hjl hput hh hsat wG;by_cases hlt:i<N
  ·have hii:(i:Int)<(N:Int):=by omega
   obtain⟨q,hq⟩:∃q,m[i]?=some q:=⟨m[i]'(by rw [HN.out];exact hlt),FP _⟩;have hqm:=FQ hq;have hpos:=HP.out q hqm;obtain⟨g,og,rg,rog,rc,rfl,hrow,hc⟩:=gm HM.out hq hpos wW.out;obtain⟨c0,c1,c2,c3⟩:=hc _ _ wW.out.drew;obtain⟨y0,y1,y2⟩:=BP.out _ _ wW.out.drew;have yj:=FH hc;have hpi:(0:Int)<(q.length:Int):=by omega
   have hqf:(au q).fits:=by
    have h0:q[0]?=some (au q):=by cases q with|nil=>cases hpos|cons a t=>rfl
    exact(hrow.2 _ (FQ h0)).2
   obtain⟨c,hcv⟩:∃c,ai (au q) (au r)=c:=⟨_,rfl⟩;have yA:=FH (lE (au q) (au r) hqf Bx.out wr.drew);rw [hcv]at yA;have HQ:=FH hq;have xS:=FH hcv;have xT:=FH hrow;clear hq hqm hc hqf hcv hrow;go_upto_region 6 with fail
   refine aH [rq 0 9,rq 1 9,rq 2 9,rq 3 9,rq 4 9,rq 5 9,rq 6 9,rq 7 9,rq 8 9,(9,true,0),rq 10 999] ?_;iterate 9 (refine ae rfl rfl fun K hK=>?_;go_simp;apply hK;clear hK K)
   refine af rfl ?_;refine al rfl fun K hK=>?_;go_simp;refine yA.out.mono ?_;rintro e3 w3 ⟨rfl,hk3⟩;have wI:=FH (wW.out.drew.kept hk3);clear hk3 yA wW c0 c1 c2 c3 y0 y1 y2;refine hK _ _ ?_;clear hK K;refine wpList_nil ?_;apply And.intro
   ·go_simp
   refine ae rfl rfl fun K hK=>?_;go_simp;apply hK;clear hK K;refine ag ?_;cases dn with
   | false =>
    by_cases h1:c<0
    ·have Bn:=FH (Cx.out.less HQ.out (by rw [xS.out];exact h1))
     have h2:¬0≤c:=by omega
     have h3:(c == 0)=false:=by simp;omega
     have c0:=(yj.out w3 _ wI.out).1;have xa:=FH ((wI.out.alloc #[.slice (some ⟨rg,rog,none⟩) q.length rc] tW).front 1 rfl);have wQ:=FH (bC (size:=1) (n:=1) (ak w3 (.cells #[.slice (some ⟨rg,rog,none⟩) q.length rc] tW)) rfl (by unfold maxLen;omega));go_wp2_with (at_builtin;refine az _ rfl _ _ tRs rfl tW i0 _ 1 24 Tryz.underlying55 HI.out.1 HI.out.2.1 HI.out.2.2.1 HI.out.2.2.2 rfl _ j _ rfl xa.out _ 1 _ rfl wQ.out (by intro u hu;simp at hu;subst hu;rfl) (by unfold maxLen;omega) (by omega) ?_;intro v7 w7 hs7 h17;obtain⟨qa,qc,rfl⟩:=hs7.own_shape;have wP:=FH (hs7.swap.drop);clear hs7 h17 xa wQ);go_roundw
     case rel=>exact⟨i+1,j+1,false,qa,qc,hs ++ [.slice (some ⟨rg,rog,none⟩) q.length rc],ms ++ [q],rfl,rfl,by go_num,by omega,by omega,by simp only [FR,List.length_cons,List.length_nil];have:=zr.out;omega,Bn.out,HH.out.snoc xT.out,wP.out⟩
     case measure=>simp [intOf];omega
    by_cases h4:c=0
    ·subst h4
     have Bn:=FH (Cx.out.here HQ.out xS.out);have xa:=FH ((wI.out.alloc #[.slice (some ⟨sg,sog,none⟩) r.length sc] tW).front 1 rfl);have wQ:=FH (bC (size:=1) (n:=1) (ak w3 (.cells #[.slice (some ⟨sg,sog,none⟩) r.length sc] tW)) rfl (by unfold maxLen;omega));go_wp2_with (at_builtin;refine az _ rfl _ _ tRs rfl tW i0 _ 1 24 Tryz.underlying55 HI.out.1 HI.out.2.1 HI.out.2.2.1 HI.out.2.2.2 rfl _ j _ rfl xa.out _ 1 _ rfl wQ.out (by intro u hu;simp at hu;subst hu;rfl) (by unfold maxLen;omega) (by omega) ?_;intro v7 w7 hs7 h17;obtain⟨qa,qc,rfl⟩:=hs7.own_shape;have wP:=FH (hs7.swap.drop);clear hs7 h17 xa wQ);go_roundw
     case rel=>exact⟨i+1,j+1,true,qa,qc,hs ++ [.slice (some ⟨sg,sog,none⟩) r.length sc],ms ++ [r],rfl,rfl,by go_num,by omega,by omega,by simp only [FR,List.length_cons,List.length_nil];have:=zr.out;omega,Bn.out,HH.out.snoc HR.out,wP.out⟩
     case measure=>simp [intOf];omega
    ·have hji:j≤i:=by
      obtain⟨h9,_⟩:ms=m.take i∧∀q∈m.take i,ai (au q) (au r)<0:=Cx.out;rw [zr.out,h9,F0];omega
     have Bn:=FH (Cx.out.above HQ.out (by rw [xS.out];omega));have h2:0≤c:=by omega
     have h3:(c == 0)=false:=by simp;omega
     have xa:=FH ((wI.out.alloc #[.slice (some ⟨sg,sog,none⟩) r.length sc] tW).front 1 rfl);have wQ:=FH (bC (size:=1) (n:=1) (ak w3 (.cells #[.slice (some ⟨sg,sog,none⟩) r.length sc] tW)) rfl (by unfold maxLen;omega));go_upto_region 10 with (at_builtin;refine az _ rfl _ _ tRs rfl tW i0 _ 1 24 Tryz.underlying55 HI.out.1 HI.out.2.1 HI.out.2.2.1 HI.out.2.2.2 rfl _ j _ rfl xa.out _ 1 _ rfl wQ.out (by intro u hu;simp at hu;subst hu;rfl) (by unfold maxLen;omega) (by omega) ?_;intro v7 w7 hs7 h17;obtain⟨qa,qc,rfl⟩:=hs7.own_shape;have wP:=FH (hs7.swap.drop);clear hs7 h17 xa wQ)
     have c0:=(yj.out w7 _ wP.out).1;have xa:=FH ((wP.out.alloc #[.slice (some ⟨rg,rog,none⟩) q.length rc] tW).front 1 rfl);have wQ:=FH (bC (size:=1) (n:=1) (ak w7 (.cells #[.slice (some ⟨rg,rog,none⟩) q.length rc] tW)) rfl (by unfold maxLen;omega));go_wp2_with (at_builtin;refine az _ rfl _ _ tRs rfl tW i0 _ 1 24 Tryz.underlying55 HI.out.1 HI.out.2.1 HI.out.2.2.1 HI.out.2.2.2 rfl _ (j+1) _ rfl xa.out _ 1 _ rfl wQ.out (by intro u hu;simp at hu;subst hu;rfl) (by unfold maxLen;omega) (by omega) ?_;intro v7 w8 hs7 h17;obtain⟨qa2,qc2,rfl⟩:=hs7.own_shape;have xQ:=FH (hs7.swap.drop);clear hs7 h17 xa wQ);go_roundw
     case rel=>exact⟨i+1,j+2,true,qa2,qc2,(hs ++ [.slice (some ⟨sg,sog,none⟩) r.length sc]) ++ [.slice (some ⟨rg,rog,none⟩) q.length rc],(ms ++ [r]) ++ [q],rfl,rfl,by go_num,by omega,by omega,by simp only [FR,List.length_cons,List.length_nil];have:=zr.out;omega,Bn.out,(HH.out.snoc HR.out).snoc xT.out,xQ.out⟩
     case measure=>simp [intOf];omega
   | true =>
    obtain⟨h1,hpn⟩:=Cx.out.later Fr.out HQ.out;rw [xS.out]at h1;have Bn:=FH hpn;have h2:0≤c:=by omega
    have h3:(c == 0)=false:=by simp;omega
    have c0:=(yj.out w3 _ wI.out).1;clear hpn;have xa:=FH ((wI.out.alloc #[.slice (some ⟨rg,rog,none⟩) q.length rc] tW).front 1 rfl);have wQ:=FH (bC (size:=1) (n:=1) (ak w3 (.cells #[.slice (some ⟨rg,rog,none⟩) q.length rc] tW)) rfl (by unfold maxLen;omega));go_wp2_with (at_builtin;refine az _ rfl _ _ tRs rfl tW i0 _ 1 24 Tryz.underlying55 HI.out.1 HI.out.2.1 HI.out.2.2.1 HI.out.2.2.2 rfl _ j _ rfl xa.out _ 1 _ rfl wQ.out (by intro u hu;simp at hu;subst hu;rfl) (by unfold maxLen;omega) (by omega) ?_;intro v7 w7 hs7 h17;obtain⟨qa,qc,rfl⟩:=hs7.own_shape;have wP:=FH (hs7.swap.drop);clear hs7 h17 xa wQ);go_roundw
    case rel=>exact⟨i+1,j+1,true,qa,qc,hs ++ [.slice (some ⟨rg,rog,none⟩) q.length rc],ms ++ [q],rfl,rfl,by go_num,by omega,by omega,by simp only [FR,List.length_cons,List.length_nil];have:=zr.out;omega,Bn.out,HH.out.snoc xT.out,wP.out⟩
    case measure=>simp [intOf];omega
  ·obtain rfl:i=N:=by omega
   have hii:¬((i:Int)<(i:Int)):=by omega
   have Df:=FH (PutI.fin (m:=m) (r:=r) (dn:=dn) (ms:=ms) (by rw [HN.out];exact Cx.out));cases dn with
   | true =>
    obtain⟨D',le,hrf,hs9⟩:=HH.out.give zr.out wW.out;have HF:=FH (show lX B D l (cw m r) (.returned (.slice oa j oc)) wr from⟨oa,j,oc,D',rfl,le,by rw [←Df.out];exact hrf,hs9⟩);clear le hrf hs9 wW;go_wp2_with fail;go_ret;exact HF.out
   | false =>
    have xa:=FH ((wW.out.alloc #[.slice (some ⟨sg,sog,none⟩) r.length sc] tW).front 1 rfl);have wQ:=FH (bC (size:=1) (n:=1) (ak wr (.cells #[.slice (some ⟨sg,sog,none⟩) r.length sc] tW)) rfl (by unfold maxLen;omega));go_wp2_with (at_builtin;refine az _ rfl _ _ tRs rfl tW i0 _ 1 24 Tryz.underlying55 HI.out.1 HI.out.2.1 HI.out.2.2.1 HI.out.2.2.2 rfl _ j _ rfl xa.out _ 1 _ rfl wQ.out (by intro u hu;simp at hu;subst hu;rfl) (by unfold maxLen;omega) (by omega) ?_;intro v7 w7 hs7 h17;obtain⟨qa,qc,rfl⟩:=hs7.own_shape;have wP:=FH (hs7.swap.drop);clear hs7 h17 xa wQ);obtain⟨D',le,hrf,hs9⟩:=(HH.out.snoc HR.out).give (show j+1=(ms ++ [r]).length by rw [FR,←zr.out];rfl) wP.out;have HF:=FH (show lX B D l (cw m r) (.returned (.slice qa (j+1) qc)) w7 from⟨qa,j+1,qc,D',rfl,le,by rw [←Df.out];exact hrf,hs9⟩);clear le hrf hs9 wP;go_ret;exact HF.out
end Go.Proofs.YtdobimafhbfkhaaGreat
