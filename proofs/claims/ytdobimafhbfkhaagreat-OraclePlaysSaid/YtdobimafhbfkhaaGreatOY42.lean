/- Statements that set no savepoints, and use no cursors: what they do depends on the tables .., and what follows. -/
import Derived.Test.YtdobimafhbfkhaaGreatOY40
set_option maxHeartbeats 64000000
namespace Go.Proofs.YtdobimafhbfkhaaGreat
set_option linter.unusedSimpArgs false
section
variable {X Y : TxM}
end
section
variable {X Y : TxM}
end
end Go.Proofs.YtdobimafhbfkhaaGreat
namespace Go.Proofs.YtdobimafhbfkhaaGreat
open Go.ChangeShapes Go.WideShapes Go.ChangeAt Go.RowKit
set_option maxRecDepth 100000
set_option linter.unusedSimpArgs false
def jF (a b:AnsM):Bool:=decide (a.rows=b.rows)&&decide (a.e=b.e)&&decide (a.n=b.n)
theorem pY {a b:AnsM}:jF a b=true↔a=b:=by
 cases a;cases b;unfold jF;simp only [Bool.and_eq_true,decide_eq_true_eq,AnsM.mk.injEq];exact⟨fun ⟨⟨h1,h2⟩,h3⟩=>⟨h2,h1,h3⟩,fun ⟨h1,h2,h3⟩=>⟨⟨h2,h1⟩,h3⟩⟩
theorem oN {w:World}{b:Nat}{x:AnsE}{t:TypeId}{fr:Nat×Nat}(h:w.heap[b]?=some (.cells x.cells.toArray t fr)) :
  w.cell? ⟨b,0,none⟩=some (.int .i64 x.e)∧w.cell? ⟨b,1,none⟩=some (.slice x.ra x.rn x.rc)∧w.cell? ⟨b,2,none⟩=some (.int .i64 x.n):=by
 refine⟨?_,?_,?_⟩<;>(rw [cell_of_row w b _ _ _ _ h];rfl)
theorem vO {w:World}{x y:AnsE}{a b:AnsM}(hx:AnsOk (aB w) x a)(hy:AnsOk (aB w) y b) :
  Calls Tryz.prog 41 #[.agg x.cells.toArray,.agg y.cells.toArray] w fun e w'=>e = .returned (.bool (jF a b))∧Kept (fun _=>False) w w':=by
 obtain⟨W1,hW1,h1⟩:∃W,W=(w.alloc (.cells x.cells.toArray aL)).alloc (.cells y.cells.toArray aL)∧Sat w (aB w) W [blk (w.heap.size+1) y.cells.toArray aL,blk w.heap.size x.cells.toArray aL]:=by
  have h2:=((Sat.start w).alloc x.cells.toArray aL).alloc y.cells.toArray aL;rw [World.size_alloc]at h2;exact⟨_,rfl,h2⟩
 have wM:=FH hW1;have wG:=FH h1;have HX:=FH hx;have HY:=FH hy;clear hW1 h1 hx hy;go_enter Tryz.func41,Tryz.ntmps41;go_upto_region 1 with fail
 rw [←wM.out];clear wM;generalize w.heap.size+1=by_ at wG ⊢;generalize w.heap.size=bx at wG ⊢;obtain⟨x0,x1,x2⟩:=oN (wG.out.blk 1 rfl);obtain⟨y0,y1,y2⟩:=oN (wG.out.blk 0 rfl);have xD:=FH (mO (HX.out.2.1.1.rd wG.out) (HY.out.2.1.1.rd wG.out));go_upto_region 2 with (go_at_call 20;refine xD.out.mono ?_;rintro e2 w2 ⟨rfl,hk2⟩;have wJ:=FH (wG.out.kept hk2);clear hk2 xD wG x0 x1 x2 y0 y1 y2)
 obtain⟨x0,x1,x2⟩:=oN (wJ.out.blk 1 rfl);obtain⟨y0,y1,y2⟩:=oN (wJ.out.blk 0 rfl);rw [HX.out.1]at x0;rw [HX.out.2.2]at x2;rw [HY.out.1]at y0;rw [HY.out.2.2]at y2;have AZ:=FH (wJ.out.drop.drop.end_ (PH.le.refl _));clear wJ;have Ch:=FH (show jF a b=(decide (a.rows=b.rows)&&decide (a.e=b.e)&&decide (a.n=b.n))from rfl);by_cases hr:a.rows=b.rows
 ·rw [F5 hr]
  by_cases he:a.e=b.e
  ·have he2:(a.e == b.e)=true:=by simpa using he
   go_wp2_with fail;go_ret;refine⟨?_,AZ.out⟩;rw [Ch.out,F5 hr,F5 he]
   rfl
  ·have he2:(a.e == b.e)=false:=by simpa using he
   go_wp2_with fail;go_ret;refine⟨?_,AZ.out⟩;rw [Ch.out,F5 hr,FY he]
   rfl
 ·rw [FY hr]
  go_wp2_with fail;go_ret;refine⟨?_,AZ.out⟩;rw [Ch.out,FY hr]
  rfl
def SameP (w:World)(l1 l2:List AnsM)(e:Ending)(w':World):Prop:=∃b:Bool,e = .returned (.bool b)∧(l1=l2→b=true)∧Kept (fun _=>False) w w'
theorem qg {w:World}{a1 a2:Option Addr}{n1 n2 c1 c2:Nat}{l1 l2:List AnsM}(h1:AnsL (aB w) (.slice a1 n1 c1) l1)(h2:AnsL (aB w) (.slice a2 n2 c2) l2) :
  Calls Tryz.prog 19 #[.slice a1 n1 c1,.slice a2 n2 c2] w (SameP w l1 l2):=by
 obtain⟨xs,hx,hxr⟩:=h1;obtain⟨ys,hy,hyr⟩:=h2;have e1:n1=xs.length:=by obtain⟨_,_,ao,c,h3,_⟩:=hxr;exact(Value.slice.inj h3).2.1
 have e2:n2=ys.length:=by obtain⟨_,_,ao,c,h3,_⟩:=hyr;exact(Value.slice.inj h3).2.1
 rw [←e1]at hxr;rw [←e2]at hyr;have hmx:=hxr.len;have zC:=FH e1.symm;have As:=FH e2.symm;have HX:=FH hx;have HY:=FH hy;have Ec:=FH hxr;have Fo:=FH hyr;have wS:=FH (Sat.start w);by_cases hn:n1=n2
 ·subst hn
  clear hx hy hxr hyr e1 e2;have hne:((n1:Int) == (n1:Int))=true:=by simp
  go_enter Tryz.func19,Tryz.ntmps19;go_wp2_with fail
  go_loopw [5] (fun iv wr=>∃k:Nat,iv = .int .i64 k∧k≤n1∧Kept (fun _=>False) w wr) (fun iv _=>n1-(intOf iv).toNat)
  case atStart=>exact⟨0,rfl,Gp _,Kept.refl _ _⟩
  case round =>
   obtain⟨k,rfl,hk,hkr⟩:=hrel;have HK:=FH hkr;have Av:=FH (wS.out.kept hkr);clear hkr;by_cases hlt:k<n1
   ·have hki:(k:Int)<(n1:Int):=by omega
    obtain⟨x,hx⟩:∃x,xs[k]?=some x:=⟨xs[k]'(by rw [zC.out];exact hlt),FP _⟩;obtain⟨y,hy⟩:∃y,ys[k]?=some y:=⟨ys[k]'(by rw [As.out];exact hlt),FP _⟩;obtain⟨a,ha,hxa⟩:=HX.out.get hx;obtain⟨b,hb,hyb⟩:=HY.out.get hy;obtain⟨g1,o1,e1,r1⟩:=bi AnsE.len (Ec.out.rd Av.out) hx zC.out;obtain⟨g2,o2,e2,r2⟩:=bi AnsE.len (Fo.out.rd Av.out) hy As.out;have HA:=FH ha;have HB:=FH hb;have zj:=FH (aJ (AnsE.len _) (show wr.drew.rangeAt g1 (o1+k*3) x.cells from r1));have yl:=FH (aJ (AnsE.len _) (show wr.drew.rangeAt g2 (o2+k*3) y.cells from r2));have wR:=FH (vO (hxa.mono Av.out.drew.pool) (hyb.mono Av.out.drew.pool));subst e1 e2;clear hx hy ha hb hxa hyb r1 r2;go_upto_region 6 with fail
    refine aH [rq 0 8,rq 1 8,rq 2 8,rq 3 8,rq 4 8,rq 5 8,rq 6 8,rq 7 8,(8,true,0),rq 9 999] ?_;(iterate 8 (refine ae rfl rfl fun K hK=>?_;(first|((refine bF _ _ rfl _ _ rfl _ zj.out ?_);go_simp)|((refine bF _ _ rfl _ _ rfl _ yl.out ?_);go_simp)|go_simp);apply hK;clear hK K));refine af rfl ?_;refine al rfl fun K hK=>?_;go_simp;refine wR.out.mono ?_;rintro e3 w3 ⟨rfl,hk3⟩;have xV:=FH (HK.out.drew.trans hk3 (fun _ h=>h.elim));clear hk3 wR;refine hK _ _ ?_;clear hK K;refine wpList_nil ?_;apply And.intro
    ·go_simp
    refine ae rfl rfl fun K hK=>?_;(first|((refine bF _ _ rfl _ _ rfl _ zj.out ?_);go_simp)|((refine bF _ _ rfl _ _ rfl _ yl.out ?_);go_simp)|go_simp);apply hK;clear hK K;refine ag ?_;cases hs:jF a b with
    | true =>
     go_wp2_with fail;go_roundw
     case rel=>exact⟨k+1,by go_num,by omega,xV.out⟩
     case measure=>simp [intOf];omega
    | false =>
     go_wp2_with fail;go_ret;refine⟨false,rfl,fun h=>?_,xV.out⟩;subst h;have h9:=HA.out;rw [HB.out]at h9;rw [pY.2 (Option.some.inj h9).symm]at hs;cases hs
   ·have hki:¬((k:Int)<(n1:Int)):=by omega
    go_wp2_with fail;go_ret;exact⟨true,rfl,fun _=>rfl,HK.out⟩
 ·have hne:((n1:Int) == (n2:Int))=false:=by simp;omega
  clear hxr hyr;go_enter Tryz.func19,Tryz.ntmps19;go_wp2_with fail;go_ret;refine⟨false,rfl,fun h=>?_,Kept.refl _ _⟩;exact absurd (by rw [←zC.out,←As.out,HX.out.len,HY.out.len,h]) hn
theorem vb (ts:List (List StmM))(i:Nat):i8 (ts.take i)≤i8 ts:=by
 unfold i8
 conv=>rhs;rw [←Gj i ts,List.map_append,List.sum_append]
 omega
theorem AnsL.mono {D D':PH}(le:PH.le D D'){v:Value}{A:List AnsM}(h:AnsL D v A):AnsL D' v A:=by
 obtain⟨es,h1,h2⟩:=h;exact⟨es,h1.imp (fun _ _ h=>h.mono le),h2.mono le⟩
theorem All2.app {α β:Type}{R:α→β→Prop}{l:List α}{m:List β}{l2:List α}{m2:List β}(h:All2 R l m)(h2:All2 R l2 m2):All2 R (l++l2) (m++m2):=by
 induction h with
 | nil=>exact h2
 | cons a _ ih=>exact .cons a ih
def DoAnsK (B:World)(D:PH)(l:List HP)(o:Nat)(P:OrM)(A:List AnsM)(k:Nat)(e:Ending)(w':World):Prop:=∃(a:Option Addr) (cc:Nat) (D':PH) (es:List AnsE),e = .returned (.slice a k cc)∧PH.le D D'∧es.length=k∧All2 (AnsOk D') es A∧RdP D' 3 (.slice a k cc) k (es.flatMap AnsE.cells)∧Sat B D' w' (orP D' o P::l)
theorem DoAns.words {B:World}{D:PH}{l:List HP}{o:Nat}{P:OrM}{A:List AnsM}{k:Nat}{p:OrM×List AnsM}{e:Ending}{w':World}(hp:p=(P,A))(hk:A.length=k)(h:DoAns B D l o p e w'):DoAnsK B D l o P A k e w':=by
 subst hp hk;obtain⟨a,cc,D',h1,h2,⟨es,h3,h4⟩,h5⟩:=h;have e1:es.length=A.length:=h3.len;rw [e1]at h4;exact⟨a,cc,D',es,h1,h2,e1,h3,h4,h5⟩
end Go.Proofs.YtdobimafhbfkhaaGreat
