/- The document's example (awake). -/
import Derived.Test.YtdobimafhbfkhaaGreatOT46
set_option maxHeartbeats 64000000
namespace Go.Proofs.YtdobimafhbfkhaaGreat
open Go.ChangeShapes Go.WideShapes Go.ChangeAt Go.RowKit
set_option maxRecDepth 100000
set_option linter.unusedSimpArgs false
theorem loadV {w:World}{g:Nat}{a b c:Value}(h:w.rangeAt g 0 [a,b,c]):(loadVar tV ⟨g,0,none⟩).run Tryz.prog w = .ok (.agg #[a,b,c]) w:=run_loadVar_mid w g 0 _ _ _ h Tryz.underlying24 rfl (by kernel_rfl)
theorem iB (n:Int)(w:World):Calls Tryz.prog 23 #[.int .i64 n] w fun e w'=>e = .returned (.agg #[.bool false,.int .i64 n,.string ⟨#[]⟩])∧Kept (fun _=>False) w w':=by
 have hk:Kept (fun _=>False) w (w.alloc (.cells #[.bool false,.int .i64 n,.string ⟨#[]⟩] tV)):=(Kept.refl _ _).alloc _
 have hb:=aw w (.cells #[.bool false,.int .i64 n,.string ⟨#[]⟩] tV)
 have HK:=CM (And.intro hk hb)
 clear hk hb
 go_enter Tryz.func23,Tryz.ntmps23
 go_wp2_with fail
 refine bodyPost_ret (aR rfl _ _ rfl (loadV (aA HK.out.2))) rfl ?_
 exact⟨rfl,HK.out.1⟩
abbrev l7 : List (List Bool):=[[false,false]]
abbrev key0 : Val:=⟨false,0,⟨#[]⟩⟩
abbrev pe0 : PredE:=⟨0,0,key0,key0,none,0,0,[]⟩
def setA : SetM:=⟨1,3,1,0,dq 1⟩
def oX : List StmM:=[⟨7,0,0,key0,[dq 1,dq 5],[],pe0.p,0,0,false⟩,⟨7,0,0,key0,[dq 1,dq 6],[],pe0.p,0,0,false⟩,⟨4,0,0,key0,[],[],pe0.p,1,0,false⟩,⟨11,0,0,key0,[],[setA],peT.p,0,0,false⟩,⟨6,0,0,dq 1,[],[],pe0.p,0,0,false⟩,⟨5,0,0,key0,[],[],pe0.p,1,0,false⟩,⟨6,0,0,dq 1,[],[],pe0.p,0,0,false⟩]
def esA (a b c:Nat):List StmE:=[⟨7,0,0,key0,⟨some ⟨a,0,none⟩,2,2⟩,⟨none,0,0⟩,pe0,0,0,false⟩,⟨7,0,0,key0,⟨some ⟨b,0,none⟩,2,2⟩,⟨none,0,0⟩,pe0,0,0,false⟩,⟨4,0,0,key0,⟨none,0,0⟩,⟨none,0,0⟩,pe0,1,0,false⟩,⟨11,0,0,key0,⟨none,0,0⟩,⟨some ⟨c,0,none⟩,1,1⟩,peT,0,0,false⟩,⟨6,0,0,dq 1,⟨none,0,0⟩,⟨none,0,0⟩,pe0,0,0,false⟩,⟨5,0,0,key0,⟨none,0,0⟩,⟨none,0,0⟩,pe0,1,0,false⟩,⟨6,0,0,dq 1,⟨none,0,0⟩,⟨none,0,0⟩,pe0,0,0,false⟩]
theorem runA : ((d6 l7).run oX).2 = [jt 1,cD 60,cD 0,jt 1,⟨0,[[dq 1,dq 6]],0⟩,cD 0,⟨0,[[dq 1,dq 5]],0⟩]:=by kernel_rfl
theorem rowsA : ic ((d6 l7).run oX).1 0 = [[dq 1,dq 5]]:=by kernel_rfl
theorem tp (n:Int)(h : -100≤n∧n≤100):(dq n).fit:=⟨by unfold cL dq;dsimp only;omega,by unfold maxLen dq;simp [ByteArray.size]⟩
theorem uf : key0.fit:=⟨by unfold cL;dsimp only;omega,by unfold maxLen;simp [ByteArray.size]⟩
theorem stsA_ok {D:PH}{a b c:Nat}(ha:RdP D 3 (.slice (some ⟨a,0,none⟩) 2 2) 2 ([dq 1,dq 5].flatMap Val.cells))(hb:RdP D 3 (.slice (some ⟨b,0,none⟩) 2 2) 2 ([dq 1,dq 6].flatMap Val.cells))(hc:RdP D 7 (.slice (some ⟨c,0,none⟩) 1 1) 1 ([setA].flatMap SetM.cells)):All2 (StmOk D) (esA a b c) oX:=by
 have r0:RowF D (.slice none 0 0) []:=⟨RdP.nil _ _,by intro v hv;cases hv⟩
 have s0:SetsF D (.slice none 0 0) []:=⟨RdP.nil _ _,by intro v hv;cases hv⟩
 have p0:PredsAt D (.slice none 0 0) []:=.mk _ [] (RdP.nil _ _) (by intro v hv;cases hv)
 have f1:∀n:Int,-100≤n∧n≤100→bR [dq 1,dq n]:=fun n hn v hv=>by
  simp at hv
  rcases hv with rfl|rfl
  ·exact tp 1 (by omega)
  ·exact tp n hn
 refine .cons ⟨rfl,rfl,rfl,⟨ha,f1 5 (by omega)⟩,s0,rfl,p0,rfl,rfl,rfl,uf⟩ (.cons ⟨rfl,rfl,rfl,⟨hb,f1 6 (by omega)⟩,s0,rfl,p0,rfl,rfl,rfl,uf⟩ (.cons ⟨rfl,rfl,rfl,r0,s0,rfl,p0,rfl,rfl,rfl,uf⟩ (.cons ⟨rfl,rfl,rfl,r0,⟨hc,?_⟩,rfl,p0,rfl,rfl,rfl,uf⟩ (.cons ⟨rfl,rfl,rfl,r0,s0,rfl,p0,rfl,rfl,rfl,tp 1 (by omega)⟩ (.cons ⟨rfl,rfl,rfl,r0,s0,rfl,p0,rfl,rfl,rfl,uf⟩ (.cons ⟨rfl,rfl,rfl,r0,s0,rfl,p0,rfl,rfl,rfl,tp 1 (by omega)⟩ .nil))))))
 intro q hq
 simp at hq
 subst hq
 exact tp 1 (by omega)
theorem oR {B w:World}{D:PH}{l:List HP}{ra:Option Addr}{rn rc:Nat}{r:List Val}(h:RowsF D (.slice ra rn rc) [r])(hr:0<r.length)(hs:Sat B D w l):∃g og rg rog rcc,ra=some ⟨g,og,none⟩∧rn=1∧w.cell? ⟨g,og,none⟩=some (.slice (some ⟨rg,rog,none⟩) r.length rcc)∧∀j u,(r.flatMap Val.cells)[j]?=some u→w.cell? ⟨rg,rog+j,none⟩=some u:=by
 have hn:=i4 h
 obtain⟨⟨us,hu1,hu2,hu3,hu4⟩,_⟩:=h
 obtain⟨u,hu⟩:∃u,us[0]?=some u:=⟨us[0]'(by rw [hu1];simp),List.getElem?_eq_getElem _⟩
 have hrd:=RdP.rd (hu4 0 u r hu rfl) hs
 obtain⟨_,_,ao,cap,hv,_,_,_,hcell⟩:=hu3.rd hs
 cases hv
 rcases hcell with h0|⟨g,og,rfl,hcc⟩
 ·simp at h0
 ·obtain⟨_,_,ao,cap2,hv2,_,_,_,hcell2⟩:=hrd
  subst hv2
  rcases hcell2 with h0|⟨g2,og2,rfl,hcc2⟩
  ·omega
  ·exact⟨g,og,g2,og2,cap2,rfl,hn,hcc 0 _ hu,hcc2⟩
theorem ph (w:World):Calls Tryz.prog 9 #[] w fun e w'=>e = .returned (.bool true)∧Kept (fun _=>False) w w':=by
 obtain⟨W1,hW1,D1,ht1,hs1,hle1⟩:∃W,W=(w.alloc (.cells #[.bool false,.bool false] tBl)).alloc (.cells #[.slice (some ⟨w.heap.size,0,none⟩) 2 2] aX)∧∃D,TblsAt D (.slice (some ⟨w.heap.size+1,0,none⟩) 1 1) l7∧Sat w D W []∧PH.le (aD w) D:=by
  have h1:=(Sat.start w).own_fresh (e:=tBl) (size:=1) (n:=2) (cap:=2) (cs:=#[.bool false,.bool false]) (xs:=[.bool false,.bool false]) (Nat.le_refl _) (by unfold maxLen;omega) (by simp) (by simp) (by intro u hu;simp at hu;subst hu;rfl)
  obtain⟨D1,le1,r1,h2⟩:=h1.own_give
  have h3:=h2.own_fresh (e:=aX) (size:=1) (n:=1) (cap:=1) (cs:=#[.slice (some ⟨w.heap.size,0,none⟩) 2 2]) (xs:=[.slice (some ⟨w.heap.size,0,none⟩) 2 2]) (Nat.le_refl _) (by unfold maxLen;omega) (by simp) (by simp) (by intro u hu;simp at hu;subst hu;rfl)
  obtain⟨D2,le2,r2,h4⟩:=h3.own_give
  rw [World.size_alloc]at r2
  refine⟨_,rfl,D2,⟨[.slice (some ⟨w.heap.size,0,none⟩) 2 2],rfl,by intro u hu;simp at hu;subst hu;rfl,r2,fun i u c hu hc=>?_⟩,h4,le1.trans le2⟩
  cases i with
  | zero=>simp at hu hc;subst hu hc;exact r1.mono le2
  | succ i=>simp at hu
 have ul:=CM hW1
 have wS:=CM (mG ht1 hs1)
 have uP:=CM hle1
 clear hW1 ht1 hs1 hle1
 go_enter Tryz.func9,Tryz.ntmps9
 go_wp2_with fail
 rw [←ul.out]
 refine wS.out.mono ?_
 rintro e2 w2 ⟨D2,hle2,hif⟩
 rw [show iM l7=true from rfl,if_pos rfl]at hif
 obtain⟨o,rfl,hs2⟩:=hif
 have ur:=CM hs2
 have uQ:=CM (uP.out.trans hle2)
 clear ul wS uP hle2 hs2
 go_wp2_with fail
 refine(iB 1 _).mono ?_
 rintro e3 w3 ⟨rfl,hk3⟩
 have ut:=CM (ur.out.kept hk3)
 clear hk3
 go_wp2_with fail
 have hq1:=(ut.out.own_fresh (e:=70) (size:=7) (n:=1) (cap:=1) (cs:=#[.int .i64 1,.int .i64 3,.int .i64 1,.int .i64 0,.bool false,.int .i64 1,.string ⟨#[]⟩]) (xs:=[setA].flatMap SetM.cells) (Nat.le_refl _) (by unfold maxLen;omega) (by simp) rfl (by intro u hu;simp [SetM.cells]at hu;rcases hu with rfl|rfl|rfl|rfl|rfl|rfl|rfl<;>rfl))
 obtain⟨D3,le3,r3,hq2⟩:=hq1.own_give
 have CB:=CM r3
 have uX:=CM (uQ.out.trans le3)
 have xW:=CM le3
 refine(iB 1 _).mono ?_
 rintro e4 w4 ⟨rfl,hk4⟩
 have uy:=CM (hq2.kept hk4)
 clear hk4
 clear hq1 hq2 le3 r3
 go_wp2_with fail
 refine(iB 5 _).mono ?_
 rintro e5 w5 ⟨rfl,hk5⟩
 have uA:=CM (uy.out.kept hk5)
 clear hk5
 go_wp2_with fail
 have hq1:=(uA.out.own_fresh (e:=tV) (size:=3) (n:=2) (cap:=2) (cs:=#[.bool false,.int .i64 1,.string ⟨#[]⟩,.bool false,.int .i64 5,.string ⟨#[]⟩]) (xs:=[dq 1,dq 5].flatMap Val.cells) (Nat.le_refl _) (by unfold maxLen;omega) (by simp) rfl (by intro u hu;obtain⟨x,_,hx⟩:=List.mem_flatMap.1 hu;exact Val.one x u hx))
 obtain⟨D4,le4,r4,hq2⟩:=hq1.own_give
 have CC:=CM r4
 have vH:=CM (uX.out.trans le4)
 have AB:=CM le4
 refine(iB 1 _).mono ?_
 rintro e6 w6 ⟨rfl,hk6⟩
 have uu:=CM (hq2.kept hk6)
 clear hk6
 clear hq1 hq2 le4 r4
 go_wp2_with fail
 refine(iB 6 _).mono ?_
 rintro e7 w7 ⟨rfl,hk7⟩
 have vb:=CM (uu.out.kept hk7)
 clear hk7
 go_wp2_with fail
 have hq1:=(vb.out.own_fresh (e:=tV) (size:=3) (n:=2) (cap:=2) (cs:=#[.bool false,.int .i64 1,.string ⟨#[]⟩,.bool false,.int .i64 6,.string ⟨#[]⟩]) (xs:=[dq 1,dq 6].flatMap Val.cells) (Nat.le_refl _) (by unfold maxLen;omega) (by simp) rfl (by intro u hu;obtain⟨x,_,hx⟩:=List.mem_flatMap.1 hu;exact Val.one x u hx))
 obtain⟨D5,le5,r5,hq2⟩:=hq1.own_give
 have CD:=CM r5
 have zn:=CM (vH.out.trans le5)
 have zz:=CM le5
 refine(iB 1 _).mono ?_
 rintro e8 w8 ⟨rfl,hk8⟩
 have vB:=CM (hq2.kept hk8)
 clear hk8
 clear hq1 hq2 le5 r5
 go_wp2_with fail
 refine(iB 1 _).mono ?_
 rintro e9 w9 ⟨rfl,hk9⟩
 have vt:=CM (vB.out.kept hk9)
 clear hk9
 go_wp2_with fail
 have hs10:=(vt.out.own_fresh (e:=tSt) (size:=20) (n:=7) (cap:=7) (cs:=((esA w5.heap.size w7.heap.size w3.heap.size).flatMap StmE.cells).toArray) (xs:=(esA w5.heap.size w7.heap.size w3.heap.size).flatMap StmE.cells) (Nat.le_refl _) (by unfold maxLen;omega) (Nat.le_refl 140) rfl (by intro u hu;obtain⟨x,_,hx⟩:=List.mem_flatMap.1 hu;exact x.one u hx))
 obtain⟨D6,le6,r6,hs11⟩:=hs10.own_give
 have hL:=xW.out.trans (AB.out.trans (zz.out.trans le6))
 have hst:StmL D6 (.slice (some ⟨w9.heap.size,0,none⟩) 7 7) oX:=⟨_,stsA_ok (CC.out.mono (zz.out.trans le6)) (CD.out.mono le6) (CB.out.mono (AB.out.trans (zz.out.trans le6))),r6⟩
 have hoi:OrI 0 (d6 l7):=⟨⟨rfl,fun i c m hc hm=>by
  cases i with
  | zero=>simp [d6]at hm;subst hm;exact⟨TabI.nil c,Nat.zero_le _⟩
  | succ i=>have h:i+1<1:=(List.getElem?_eq_some_iff.1 hc).1;omega⟩,fun i m hm=>by
  cases i with
  | zero=>simp [d6]at hm;subst hm;exact Nat.le_refl _
  | succ i=>simp [d6]at hm⟩
 have hfit:∀s∈oX,bR s.row∧∀q∈s.sets,q.v.fit:=fun s hs=>by
  obtain⟨i,hi⟩:=List.mem_iff_getElem?.1 hs
  obtain⟨es,he1,_⟩:=hst
  have hlt:i<es.length:=by rw [he1.len];exact(List.getElem?_eq_some_iff.1 hi).1
  obtain⟨s',hs',hok⟩:=he1.get (List.getElem?_eq_getElem hlt)
  rw [hi]at hs'
  cases hs'
  exact⟨hok.row.2,hok.sets.2⟩
 have zv:=CM (hoi.run oX hfit (by decide))
 have zA:=CM (zn.out.trans le6)
 refine(pp (n:=0) hst (by intro s hs;simp [oX]at hs;rcases hs with rfl|rfl|rfl|rfl|rfl|rfl|rfl<;>decide) hoi (by decide) (gT hL hs11)).mono ?_
 rintro e10 w10 ⟨aa,ac,D7,rfl,hle7,hans,hs12⟩
 have hl7:((d6 l7).run oX).2.length=7:=by rw [runA];rfl
 rw [hl7]at hans ⊢
 rw [runA]at hans
 obtain⟨es,hall,hrd⟩:=hans
 obtain _|⟨h1,hall⟩:=hall
 obtain _|⟨h2,hall⟩:=hall
 obtain _|⟨h3,hall⟩:=hall
 obtain _|⟨h4,hall⟩:=hall
 obtain _|⟨h5,hall⟩:=hall
 obtain _|⟨h6,hall⟩:=hall
 obtain _|⟨h7,hall⟩:=hall
 obtain _:=hall
 rename_i a1 a2 a3 a4 a5 a6 a7
 obtain⟨_,_,ao,cap,hv,_,_,_,hcell⟩:=hrd.rd hs12
 have hao:=(Value.slice.inj hv).1
 subst hao
 rcases hcell with h0|⟨g,og,rfl,hcc⟩
 ·exact absurd h0 (by simp)
 have e2:=hcc 3 _ rfl
 have e4:=hcc 11 _ rfl
 have e5:=hcc 13 _ rfl
 have e7:=hcc 19 _ rfl
 rw [show a1.e=60 from h2.1]at e2
 rw [show a3.n=1 from h4.2.2]at e4
 obtain⟨g5,o5,r5g,r5o,r5c,q1,q2,f5,f5c⟩:=oR h5.2.1 (by decide) hs12
 obtain⟨g7,o7,r7g,r7o,r7c,q3,q4,f7,f7c⟩:=oR h7.2.1 (by decide) hs12
 rw [q1,q2]at e5
 rw [q3,q4]at e7
 have k5:=f5c 4 _ rfl
 have k7:=f7c 4 _ rfl
 rw [show [dq 1,dq 6].length=2 from rfl]at f5
 rw [show [dq 1,dq 5].length=2 from rfl]at f7
 have hrw:=mF 0 zv.out hs12
 rw [rowsA]at hrw
 have vm:=CM hrw
 clear hrw
 have yD:=CM (zA.out.trans hle7)
 clear hs10 le6 r6 hs11 hL hst hoi hfit hl7 hall hrd h1 h2 h3 h4 h5 h6 h7 hcc hv hs12 hle7 q1 q2 q3 q4 f5c f7c
 go_wp2_with fail
 refine vm.out.mono ?_
 rintro e11 w11 ⟨ra,rcc,D8,rfl,hle8,-,hs13⟩
 have HK:=CM (hs13.drop.end_ (yD.out.trans hle8))
 clear hs13 hle8 vm e2 e4 e5 e7 k5 k7 f5 f7
 go_wp2_with fail
 refine bodyPost_ret (results_tmp rfl _ _ _) rfl ?_
 exact⟨rfl,HK.out⟩
end Go.Proofs.YtdobimafhbfkhaaGreat
