/- The document's example (awake). -/
import Derived.Test.YtdobimafhbfkhaaGreatOY36
set_option maxHeartbeats 64000000
namespace Go.Proofs.YtdobimafhbfkhaaGreat
open Go.ChangeShapes Go.WideShapes Go.ChangeAt Go.RowKit
set_option maxRecDepth 100000
set_option linter.unusedSimpArgs false
theorem loadV {w:World}{g:Nat}{a b c:Value}(h:w.rangeAt g 0 [a,b,c]):(loadVar tV ⟨g,0,none⟩).run Tryz.prog w = .ok (.agg #[a,b,c]) w:=run_loadVar_mid w g 0 _ _ _ h Tryz.underlying24 rfl (by kernel_rfl)
theorem jq (n:Int)(w:World):Calls Tryz.prog 23 #[.int .i64 n] w fun e w'=>e = .returned (.agg #[.bool false,.int .i64 n,.string ⟨#[]⟩])∧Kept (fun _=>False) w w':=by
 have hk:Kept (fun _=>False) w (w.alloc (.cells #[.bool false,.int .i64 n,.string ⟨#[]⟩] tV)):=(Kept.refl _ _).alloc _;have hb:=ak w (.cells #[.bool false,.int .i64 n,.string ⟨#[]⟩] tV);have HK:=FH (And.intro hk hb);clear hk hb;go_enter Tryz.func23,Tryz.ntmps23;go_wp2_with fail;refine bodyPost_ret (av rfl _ _ rfl (loadV (aj HK.out.2))) rfl ?_;exact⟨rfl,HK.out.1⟩
abbrev nK : List (List Bool):=[[false,false]]
abbrev key0 : Val:=⟨false,0,⟨#[]⟩⟩
abbrev pe0 : PredE:=⟨0,0,key0,key0,none,0,0,[]⟩
def setA : SetM:=⟨1,3,1,0,dB 1⟩
def qI : List StmM:=[⟨7,0,0,key0,[dB 1,dB 5],[],pe0.p,0,0,false⟩,⟨7,0,0,key0,[dB 1,dB 6],[],pe0.p,0,0,false⟩,⟨4,0,0,key0,[],[],pe0.p,1,0,false⟩,⟨11,0,0,key0,[],[setA],peT.p,0,0,false⟩,⟨6,0,0,dB 1,[],[],pe0.p,0,0,false⟩,⟨5,0,0,key0,[],[],pe0.p,1,0,false⟩,⟨6,0,0,dB 1,[],[],pe0.p,0,0,false⟩]
def esA (a b c:Nat):List StmE:=[⟨7,0,0,key0,⟨some ⟨a,0,none⟩,2,2⟩,⟨none,0,0⟩,pe0,0,0,false⟩,⟨7,0,0,key0,⟨some ⟨b,0,none⟩,2,2⟩,⟨none,0,0⟩,pe0,0,0,false⟩,⟨4,0,0,key0,⟨none,0,0⟩,⟨none,0,0⟩,pe0,1,0,false⟩,⟨11,0,0,key0,⟨none,0,0⟩,⟨some ⟨c,0,none⟩,1,1⟩,peT,0,0,false⟩,⟨6,0,0,dB 1,⟨none,0,0⟩,⟨none,0,0⟩,pe0,0,0,false⟩,⟨5,0,0,key0,⟨none,0,0⟩,⟨none,0,0⟩,pe0,1,0,false⟩,⟨6,0,0,dB 1,⟨none,0,0⟩,⟨none,0,0⟩,pe0,0,0,false⟩]
theorem runA : ((fJ nK).run qI).2 = [fL 1,bJ 60,bJ 0,fL 1,⟨0,[[dB 1,dB 6]],0⟩,bJ 0,⟨0,[[dB 1,dB 5]],0⟩]:=by kernel_rfl
theorem rowsA : ii ((fJ nK).run qI).1 0 = [[dB 1,dB 5]]:=by kernel_rfl
theorem vj (n:Int)(h : -100≤n∧n≤100):(dB n).fit:=⟨by unfold bO dB;dsimp only;omega,by unfold maxLen dB;simp [ByteArray.size]⟩
theorem uS : key0.fit:=⟨by unfold bO;dsimp only;omega,by unfold maxLen;simp [ByteArray.size]⟩
theorem stsA_ok {D:PH}{a b c:Nat}(ha:RdP D 3 (.slice (some ⟨a,0,none⟩) 2 2) 2 ([dB 1,dB 5].flatMap Val.cells))(hb:RdP D 3 (.slice (some ⟨b,0,none⟩) 2 2) 2 ([dB 1,dB 6].flatMap Val.cells))(hc:RdP D 7 (.slice (some ⟨c,0,none⟩) 1 1) 1 ([setA].flatMap SetM.cells)):All2 (StmOk D) (esA a b c) qI:=by
 have r0:RowF D (.slice none 0 0) []:=⟨RdP.nil _ _,by intro v hv;cases hv⟩;have s0:SetsF D (.slice none 0 0) []:=⟨RdP.nil _ _,by intro v hv;cases hv⟩;have p0:PredsAt D (.slice none 0 0) []:=.mk _ [] (RdP.nil _ _) (by intro v hv;cases hv);have f1:∀n:Int,-100≤n∧n≤100→bG [dB 1,dB n]:=fun n hn v hv=>by
  simp at hv;rcases hv with rfl|rfl
  ·exact vj 1 (by omega)
  ·exact vj n hn
 refine .cons ⟨rfl,rfl,rfl,⟨ha,f1 5 (by omega)⟩,s0,rfl,p0,rfl,rfl,rfl,uS⟩ (.cons ⟨rfl,rfl,rfl,⟨hb,f1 6 (by omega)⟩,s0,rfl,p0,rfl,rfl,rfl,uS⟩ (.cons ⟨rfl,rfl,rfl,r0,s0,rfl,p0,rfl,rfl,rfl,uS⟩ (.cons ⟨rfl,rfl,rfl,r0,⟨hc,?_⟩,rfl,p0,rfl,rfl,rfl,uS⟩ (.cons ⟨rfl,rfl,rfl,r0,s0,rfl,p0,rfl,rfl,rfl,vj 1 (by omega)⟩ (.cons ⟨rfl,rfl,rfl,r0,s0,rfl,p0,rfl,rfl,rfl,uS⟩ (.cons ⟨rfl,rfl,rfl,r0,s0,rfl,p0,rfl,rfl,rfl,vj 1 (by omega)⟩ .nil))))));intro q hq;simp at hq;subst hq;exact vj 1 (by omega)
theorem qO {B w:World}{D:PH}{l:List HP}{ra:Option Addr}{rn rc:Nat}{r:List Val}(h:RowsF D (.slice ra rn rc) [r])(hr:0<r.length)(hs:Sat B D w l):∃g og rg rog rcc,ra=some ⟨g,og,none⟩∧rn=1∧w.cell? ⟨g,og,none⟩=some (.slice (some ⟨rg,rog,none⟩) r.length rcc)∧∀j u,(r.flatMap Val.cells)[j]?=some u→w.cell? ⟨rg,rog+j,none⟩=some u:=by
 have hn:=cK h;obtain⟨⟨us,hu1,hu2,hu3,hu4⟩,_⟩:=h;obtain⟨u,hu⟩:∃u,us[0]?=some u:=⟨us[0]'(by rw [hu1];simp),FP _⟩;have hrd:=RdP.rd (hu4 0 u r hu rfl) hs;obtain⟨_,_,ao,cap,hv,_,_,_,hcell⟩:=hu3.rd hs;cases hv;rcases hcell with h0|⟨g,og,rfl,hcc⟩
 ·simp at h0
 ·obtain⟨_,_,ao,cap2,hv2,_,_,_,hcell2⟩:=hrd
  subst hv2;rcases hcell2 with h0|⟨g2,og2,rfl,hcc2⟩
  ·omega
  ·exact⟨g,og,g2,og2,cap2,rfl,hn,hcc 0 _ hu,hcc2⟩
theorem wg (w:World):Calls Tryz.prog 9 #[] w fun e w'=>e = .returned (.bool true)∧Kept (fun _=>False) w w':=by
 obtain⟨W1,hW1,D1,ht1,hs1,hle1⟩:∃W,W=(w.alloc (.cells #[.bool false,.bool false] tBl)).alloc (.cells #[.slice (some ⟨w.heap.size,0,none⟩) 2 2] bN)∧∃D,TblsAt D (.slice (some ⟨w.heap.size+1,0,none⟩) 1 1) nK∧Sat w D W []∧PH.le (aB w) D:=by
  have h1:=(Sat.start w).own_fresh (e:=tBl) (size:=1) (n:=2) (cap:=2) (cs:=#[.bool false,.bool false]) (xs:=[.bool false,.bool false]) (Gn _) (by unfold maxLen;omega) (by simp) (by simp) (by intro u hu;simp at hu;subst hu;rfl);obtain⟨D1,le1,r1,h2⟩:=h1.own_give;have h3:=h2.own_fresh (e:=bN) (size:=1) (n:=1) (cap:=1) (cs:=#[.slice (some ⟨w.heap.size,0,none⟩) 2 2]) (xs:=[.slice (some ⟨w.heap.size,0,none⟩) 2 2]) (Gn _) (by unfold maxLen;omega) (by simp) (by simp) (by intro u hu;simp at hu;subst hu;rfl);obtain⟨D2,le2,r2,h4⟩:=h3.own_give;rw [World.size_alloc]at r2;refine⟨_,rfl,D2,⟨[.slice (some ⟨w.heap.size,0,none⟩) 2 2],rfl,by intro u hu;simp at hu;subst hu;rfl,r2,fun i u c hu hc=>?_⟩,h4,le1.trans le2⟩;cases i with
  | zero=>simp at hu hc;subst hu hc;exact r1.mono le2
  | succ i=>simp at hu
 have wM:=FH hW1;have zi:=FH (uJ ht1 hs1);have xp:=FH hle1;clear hW1 ht1 hs1 hle1;go_enter Tryz.func9,Tryz.ntmps9;go_wp2_with fail;rw [←wM.out];refine zi.out.mono ?_;rintro e2 w2 ⟨D2,hle2,hif⟩;rw [show eo nK=true from rfl,if_pos rfl]at hif;obtain⟨o,rfl,hs2⟩:=hif;have wJ:=FH hs2;have xe:=FH (xp.out.trans hle2);clear wM zi xp hle2 hs2;go_wp2_with fail;refine(jq 1 _).mono ?_;rintro e3 w3 ⟨rfl,hk3⟩;have wI:=FH (wJ.out.kept hk3);clear hk3;go_wp2_with fail;have hq1:=(wI.out.own_fresh (e:=70) (size:=7) (n:=1) (cap:=1) (cs:=#[.int .i64 1,.int .i64 3,.int .i64 1,.int .i64 0,.bool false,.int .i64 1,.string ⟨#[]⟩]) (xs:=[setA].flatMap SetM.cells) (Gn _) (by unfold maxLen;omega) (by simp) rfl (by intro u hu;simp [SetM.cells]at hu;rcases hu with rfl|rfl|rfl|rfl|rfl|rfl|rfl<;>rfl));obtain⟨D3,le3,r3,hq2⟩:=hq1.own_give;have Fi:=FH r3;have xt:=FH (xe.out.trans le3);have AT:=FH le3;refine(jq 1 _).mono ?_;rintro e4 w4 ⟨rfl,hk4⟩;have wO:=FH (hq2.kept hk4);clear hk4;clear hq1 hq2 le3 r3;go_wp2_with fail;refine(jq 5 _).mono ?_;rintro e5 w5 ⟨rfl,hk5⟩;have wT:=FH (wO.out.kept hk5);clear hk5;go_wp2_with fail;have hq1:=(wT.out.own_fresh (e:=tV) (size:=3) (n:=2) (cap:=2) (cs:=#[.bool false,.int .i64 1,.string ⟨#[]⟩,.bool false,.int .i64 5,.string ⟨#[]⟩]) (xs:=[dB 1,dB 5].flatMap Val.cells) (Gn _) (by unfold maxLen;omega) (by simp) rfl (by intro u hu;obtain⟨x,_,hx⟩:=Gi.1 hu;exact Val.one x u hx));obtain⟨D4,le4,r4,hq2⟩:=hq1.own_give;have Fj:=FH r4;have xX:=FH (xt.out.trans le4);have C8:=FH le4;refine(jq 1 _).mono ?_;rintro e6 w6 ⟨rfl,hk6⟩;have wK:=FH (hq2.kept hk6);clear hk6;clear hq1 hq2 le4 r4;go_wp2_with fail;refine(jq 6 _).mono ?_;rintro e7 w7 ⟨rfl,hk7⟩;have wP:=FH (wK.out.kept hk7);clear hk7;go_wp2_with fail;have hq1:=(wP.out.own_fresh (e:=tV) (size:=3) (n:=2) (cap:=2) (cs:=#[.bool false,.int .i64 1,.string ⟨#[]⟩,.bool false,.int .i64 6,.string ⟨#[]⟩]) (xs:=[dB 1,dB 6].flatMap Val.cells) (Gn _) (by unfold maxLen;omega) (by simp) rfl (by intro u hu;obtain⟨x,_,hx⟩:=Gi.1 hu;exact Val.one x u hx));obtain⟨D5,le5,r5,hq2⟩:=hq1.own_give;have Fk:=FH r5;have xA:=FH (xX.out.trans le5);have Cc:=FH le5;refine(jq 1 _).mono ?_;rintro e8 w8 ⟨rfl,hk8⟩;have xQ:=FH (hq2.kept hk8);clear hk8;clear hq1 hq2 le5 r5;go_wp2_with fail;refine(jq 1 _).mono ?_;rintro e9 w9 ⟨rfl,hk9⟩;have yi:=FH (xQ.out.kept hk9);clear hk9;go_wp2_with fail;have hs10:=(yi.out.own_fresh (e:=tSt) (size:=20) (n:=7) (cap:=7) (cs:=((esA w5.heap.size w7.heap.size w3.heap.size).flatMap StmE.cells).toArray) (xs:=(esA w5.heap.size w7.heap.size w3.heap.size).flatMap StmE.cells) (Gn _) (by unfold maxLen;omega) (Gn 140) rfl (by intro u hu;obtain⟨x,_,hx⟩:=Gi.1 hu;exact x.one u hx));obtain⟨D6,le6,r6,hs11⟩:=hs10.own_give;have hL:=AT.out.trans (C8.out.trans (Cc.out.trans le6));have hst:StmL D6 (.slice (some ⟨w9.heap.size,0,none⟩) 7 7) qI:=⟨_,stsA_ok (Fj.out.mono (Cc.out.trans le6)) (Fk.out.mono le6) (Fi.out.mono (C8.out.trans (Cc.out.trans le6))),r6⟩;have hoi:OrI 0 (fJ nK):=⟨⟨rfl,fun i c m hc hm=>by
  cases i with
  | zero=>simp [fJ]at hm;subst hm;exact⟨TabI.nil c,Gp _⟩
  | succ i=>have h:i+1<1:=(FO.1 hc).1;omega⟩,fun i m hm=>by
  cases i with
  | zero=>simp [fJ]at hm;subst hm;exact Gn _
  | succ i=>simp [fJ]at hm⟩
 have hfit:∀s∈qI,bG s.row∧∀q∈s.sets,q.v.fit:=fun s hs=>by
  obtain⟨i,hi⟩:=List.mem_iff_getElem?.1 hs;obtain⟨es,he1,_⟩:=hst;have hlt:i<es.length:=by rw [he1.len];exact(FO.1 hi).1
  obtain⟨s',hs',hok⟩:=he1.get (FP hlt);rw [hi]at hs';cases hs';exact⟨hok.row.2,hok.sets.2⟩
 have DZ:=FH (hoi.run qI hfit (by decide));have zc:=FH (xA.out.trans le6);refine(uU (n:=0) hst (by intro s hs;simp [qI]at hs;rcases hs with rfl|rfl|rfl|rfl|rfl|rfl|rfl<;>decide) hoi (by decide) (j5 hL hs11)).mono ?_;rintro e10 w10 ⟨aa,ac,D7,rfl,hle7,hans,hs12⟩;have hl7:((fJ nK).run qI).2.length=7:=by rw [runA];rfl
 rw [hl7]at hans ⊢;rw [runA]at hans;obtain⟨es,hall,hrd⟩:=hans;obtain _|⟨h1,hall⟩:=hall;obtain _|⟨h2,hall⟩:=hall;obtain _|⟨h3,hall⟩:=hall;obtain _|⟨h4,hall⟩:=hall;obtain _|⟨h5,hall⟩:=hall;obtain _|⟨h6,hall⟩:=hall;obtain _|⟨h7,hall⟩:=hall;obtain _:=hall;rename_i a1 a2 a3 a4 a5 a6 a7;obtain⟨_,_,ao,cap,hv,_,_,_,hcell⟩:=hrd.rd hs12;have hao:=(Value.slice.inj hv).1;subst hao;rcases hcell with h0|⟨g,og,rfl,hcc⟩
 ·exact absurd h0 (by simp)
 have e2:=hcc 3 _ rfl;have e4:=hcc 11 _ rfl;have e5:=hcc 13 _ rfl;have e7:=hcc 19 _ rfl;rw [show a1.e=60 from h2.1]at e2;rw [show a3.n=1 from h4.2.2]at e4;obtain⟨g5,o5,r5g,r5o,r5c,q1,q2,f5,f5c⟩:=qO h5.2.1 (by decide) hs12;obtain⟨g7,o7,r7g,r7o,r7c,q3,q4,f7,f7c⟩:=qO h7.2.1 (by decide) hs12;rw [q1,q2]at e5;rw [q3,q4]at e7;have k5:=f5c 4 _ rfl;have k7:=f7c 4 _ rfl;rw [show [dB 1,dB 6].length=2 from rfl]at f5;rw [show [dB 1,dB 5].length=2 from rfl]at f7;have hrw:=sD 0 DZ.out hs12;rw [rowsA]at hrw;have xg:=FH hrw;clear hrw;have AY:=FH (zc.out.trans hle7);clear hs10 le6 r6 hs11 hL hst hoi hfit hl7 hall hrd h1 h2 h3 h4 h5 h6 h7 hcc hv hs12 hle7 q1 q2 q3 q4 f5c f7c;go_wp2_with fail;refine xg.out.mono ?_;rintro e11 w11 ⟨ra,rcc,D8,rfl,hle8,-,hs13⟩;have HK:=FH (hs13.drop.end_ (AY.out.trans hle8));clear hs13 hle8 xg e2 e4 e5 e7 k5 k7 f5 f7;go_wp2_with fail;go_ret;exact⟨rfl,HK.out⟩
end Go.Proofs.YtdobimafhbfkhaaGreat
