/- Joined texts: Statements that set no savepoints, and use no cursors: what they do depends on the tables alone; as data. The document's answer: are answers the same (ratlineref15.Same, Answers). Transactions without savepoints and cursors are answered the same as one that has all their statements (OracleSplits): the walk. -/
import Derived.Test.YtdobimafhbfkhaaGreatOT51
set_option maxHeartbeats 64000000
namespace Go.Proofs.YtdobimafhbfkhaaGreat
set_option linter.unusedSimpArgs false
def XE (X Y:TxM):Prop:=X.cols=Y.cols∧X.tabs=Y.tabs
def qd (k:Int):Prop:=k≠4∧k≠5∧k<13
section
variable {X Y : TxM}
theorem iq (h:XE X Y)(t:Int):X.tab t=Y.tab t:=by unfold TxM.tab;rw [h.2]
theorem sK (h:XE X Y)(i:Int)(r:List Val):XE (X.put i r) (Y.put i r):=⟨h.1,by show X.tabs.set i.toNat (cF (X.tab i) r)=Y.tabs.set i.toNat (cF (Y.tab i) r);rw [iq h,h.2]⟩
theorem su (h:XE X Y)(i:Int)(k:Val):XE (X.out i k) (Y.out i k):=⟨h.1,by show X.tabs.set i.toNat (dx (X.tab i) k)=Y.tabs.set i.toNat (dx (Y.tab i) k);rw [iq h,h.2]⟩
end
theorem qA (i:Int):∀(fr:ay) {X Y:TxM},XE X Y→XE (fr.foldl (fun y r=>y.put i r) X) (fr.foldl (fun y r=>y.put i r) Y)
 | [],_,_,h=>h
 | r::fr,_,_,h=>qA i fr (sK h i r)
theorem qr (i:Int):∀(fr:ay) {X Y:TxM},XE X Y→XE (fr.foldl (fun y r=>y.out i (aJ r)) X) (fr.foldl (fun y r=>y.out i (aJ r)) Y)
 | [],_,_,h=>h
 | _::fr,_,_,h=>qr i fr (su h i _)
def qv (p q:TxM×AnsM):Prop:=XE p.1 q.1∧p.2=q.2
section
variable {X Y : TxM}
theorem se (h:XE X Y)(t:Int)(l:ay)(sets:List SetM):qv (X.all t l sets) (Y.all t l sets):=by
 have hc:X.col t=Y.col t:=by unfold TxM.col;rw [h.1]
 unfold TxM.all
 rw [hc]
 split
 ·exact⟨qA _ _ h,rfl⟩
 ·exact⟨h,rfl⟩
theorem one_XE (h:XE X Y)(t:Int)(k:Val)(sets:List SetM):qv (X.one t k sets) (Y.one t k sets):=by
 unfold TxM.one
 rw [iq h]
 cases aY (Y.tab t) k with
 | none=>exact⟨h,rfl⟩
 | some r=>exact se h _ _ _
theorem drop_XE (h:XE X Y)(t:Int)(k:Val):qv (X.drop t k) (Y.drop t k):=by
 unfold TxM.drop
 rw [iq h]
 cases aY (Y.tab t) k with
 | none=>exact⟨h,rfl⟩
 | some r=>exact⟨su h _ _,rfl⟩
theorem step_XE (h:XE X Y){s:StmM}(hk:qd s.kind):qv (cC X s) (cC Y s):=by
 have hh:∀p sp,X.hold s.table p sp=Y.hold s.table p sp:=fun p sp=>by unfold TxM.hold;rw [iq h]
 obtain⟨k4,k5,k13⟩:=hk
 unfold cC
 rw [h.1]
 cases hok:okS Y.cols s with
 | false=>exact⟨h,rfl⟩
 | true =>
  rw [if_neg (show ¬((!true)=true) by decide),if_neg (show ¬((!true)=true) by decide),if_neg k4,if_neg k4,if_neg k5,if_neg k5]
  by_cases h6:s.kind=6
  ·rw [if_pos h6,if_pos h6,iq h];exact⟨h,rfl⟩
  rw [if_neg h6,if_neg h6]
  by_cases h7:s.kind=7
  ·rw [if_pos h7,if_pos h7,iq h]
   cases (aY (Y.tab s.table) (aJ s.row)).isSome
   ·exact⟨sK h _ _,rfl⟩
   ·exact⟨h,rfl⟩
  rw [if_neg h7,if_neg h7]
  by_cases h8:s.kind=8
  ·rw [if_pos h8,if_pos h8];exact one_XE h _ _ _
  rw [if_neg h8,if_neg h8]
  by_cases h9:s.kind=9
  ·rw [if_pos h9,if_pos h9];exact drop_XE h _ _
  rw [if_neg h9,if_neg h9]
  by_cases h10:s.kind=10
  ·rw [if_pos h10,if_pos h10,hh];exact⟨h,rfl⟩
  rw [if_neg h10,if_neg h10]
  by_cases h11:s.kind=11
  ·rw [if_pos h11,if_pos h11,hh];exact se h _ _ _
  rw [if_neg h11,if_neg h11]
  by_cases h12:s.kind=12
  ·rw [if_pos h12,if_pos h12,hh];exact⟨qr _ _ h,rfl⟩
  rw [if_neg h12,if_neg h12,if_neg (show ¬s.kind=13 by omega),if_neg (show ¬s.kind=13 by omega),if_neg (show ¬s.kind=14 by omega),if_neg (show ¬s.kind=14 by omega),if_neg (show ¬s.kind=17 by omega),if_neg (show ¬s.kind=17 by omega)]
  exfalso
  have:=iP (X:=Y) hok
  omega
end
def pq (l:List StmM):Prop:=∀s∈l,qd s.kind
theorem nN : ∀(l:List StmM) {X Y:TxM},XE X Y→pq l→XE (bg X l).1 (bg Y l).1∧(bg X l).2=(bg Y l).2
 | [],_,_,h,_=>⟨h,rfl⟩
 | s::l,X,Y,h,hp=>by
  obtain⟨h1,h2⟩:=step_XE h (hp s (List.mem_cons_self ..))
  obtain⟨g1,g2⟩:=nN l h1 (fun q hq=>hp q (List.mem_cons_of_mem _ hq))
  refine⟨g1,?_⟩
  show(cC X s).2::(bg (cC X s).1 l).2=(cC Y s).2::(bg (cC Y s).1 l).2
  rw [h2,g2]
theorem lR : ∀(l1 l2:List StmM) (X:TxM),bg X (l1++l2)=((bg (bg X l1).1 l2).1,(bg X l1).2++(bg (bg X l1).1 l2).2)
 | [],_,_=>rfl
 | s::l1,l2,X=>by
  show((bg (cC X s).1 (l1++l2)).1,(cC X s).2::(bg (cC X s).1 (l1++l2)).2)=_
  rw [lR l1 l2]
  rfl
theorem j8 : ∀(l:List StmM) (X:TxM),(bg X l).1.cols=X.cols
 | [],_=>rfl
 | s::l,X=>(j8 l (cC X s).1).trans (jv X s)
theorem run_app (O:OrM)(l1:List StmM){l2:List StmM}(hp:pq l2):O.run (l1++l2)=(((O.run l1).1.run l2).1,(O.run l1).2++((O.run l1).1.run l2).2):=by
 obtain⟨h1,h2⟩:=nN l2 (X:=(bg (bZ O.cols O.tabs) l1).1) (Y:=bZ O.cols (bg (bZ O.cols O.tabs) l1).1.tabs) ⟨j8 _ _,rfl⟩ hp
 show((⟨O.cols,(bg (bZ O.cols O.tabs) (l1++l2)).1.tabs⟩:OrM),(bg (bZ O.cols O.tabs) (l1++l2)).2)=_
 rw [lR]
 show((⟨O.cols,(bg (bg (bZ O.cols O.tabs) l1).1 l2).1.tabs⟩:OrM),(bg (bZ O.cols O.tabs) l1).2++(bg (bg (bZ O.cols O.tabs) l1).1 l2).2)=((⟨O.cols,(bg (bZ O.cols (bg (bZ O.cols O.tabs) l1).1.tabs) l2).1.tabs⟩:OrM),(bg (bZ O.cols O.tabs) l1).2++(bg (bZ O.cols (bg (bZ O.cols O.tabs) l1).1.tabs) l2).2)
 rw [h1.2,h2]
end Go.Proofs.YtdobimafhbfkhaaGreat
namespace Go.Proofs.YtdobimafhbfkhaaGreat
open Go.ChangeShapes Go.WideShapes Go.ChangeAt Go.RowKit
set_option maxRecDepth 100000
set_option linter.unusedSimpArgs false
def jc (a b:AnsM):Bool:=decide (a.rows=b.rows)&&decide (a.e=b.e)&&decide (a.n=b.n)
theorem oI {a b:AnsM}:jc a b=true↔a=b:=by
 cases a;cases b
 unfold jc
 simp only [Bool.and_eq_true,decide_eq_true_eq,AnsM.mk.injEq]
 exact⟨fun ⟨⟨h1,h2⟩,h3⟩=>⟨h2,h1,h3⟩,fun ⟨h1,h2,h3⟩=>⟨⟨h2,h1⟩,h3⟩⟩
theorem mH {w:World}{b:Nat}{x:AnsE}{t:TypeId}{fr:Nat×Nat}(h:w.heap[b]?=some (.cells x.cells.toArray t fr)) :
  w.cell? ⟨b,0,none⟩=some (.int .i64 x.e)∧w.cell? ⟨b,1,none⟩=some (.slice x.ra x.rn x.rc)∧w.cell? ⟨b,2,none⟩=some (.int .i64 x.n):=by
 refine⟨?_,?_,?_⟩<;>(rw [cell_of_row w b _ _ _ _ h];rfl)
theorem sO {w:World}{x y:AnsE}{a b:AnsM}(hx:AnsOk (aD w) x a)(hy:AnsOk (aD w) y b) :
  Calls Tryz.prog 41 #[.agg x.cells.toArray,.agg y.cells.toArray] w fun e w'=>e = .returned (.bool (jc a b))∧Kept (fun _=>False) w w':=by
 obtain⟨W1,hW1,h1⟩:∃W,W=(w.alloc (.cells x.cells.toArray bl)).alloc (.cells y.cells.toArray bl)∧Sat w (aD w) W [blk (w.heap.size+1) y.cells.toArray bl,blk w.heap.size x.cells.toArray bl]:=by
  have h2:=((Sat.start w).alloc x.cells.toArray bl).alloc y.cells.toArray bl
  rw [World.size_alloc]at h2
  exact⟨_,rfl,h2⟩
 have ul:=CM hW1
 have uk:=CM h1
 have HX:=CM hx
 have HY:=CM hy
 clear hW1 h1 hx hy
 go_enter Tryz.func41,Tryz.ntmps41
 go_upto_region 1 with fail
 rw [←ul.out]
 clear ul
 generalize w.heap.size+1=by_ at uk ⊢
 generalize w.heap.size=bx at uk ⊢
 obtain⟨x0,x1,x2⟩:=mH (uk.out.blk 1 rfl)
 obtain⟨y0,y1,y2⟩:=mH (uk.out.blk 0 rfl)
 have HRR:=CM (ou (HX.out.2.1.1.rd uk.out) (HY.out.2.1.1.rd uk.out))
 go_upto_region 2 with (go_at_call 20;refine HRR.out.mono ?_;rintro e2 w2 ⟨rfl,hk2⟩;have ur:=CM (uk.out.kept hk2);clear hk2 HRR uk x0 x1 x2 y0 y1 y2)
 obtain⟨x0,x1,x2⟩:=mH (ur.out.blk 1 rfl)
 obtain⟨y0,y1,y2⟩:=mH (ur.out.blk 0 rfl)
 rw [HX.out.1]at x0
 rw [HX.out.2.2]at x2
 rw [HY.out.1]at y0
 rw [HY.out.2.2]at y2
 have vU:=CM (ur.out.drop.drop.end_ (PH.le.refl _))
 clear ur
 have zG:=CM (show jc a b=(decide (a.rows=b.rows)&&decide (a.e=b.e)&&decide (a.n=b.n))from rfl)
 by_cases hr:a.rows=b.rows
 ·rw [decide_eq_true hr]
  by_cases he:a.e=b.e
  ·have he2:(a.e == b.e)=true:=by simpa using he
   go_wp2_with fail
   refine bodyPost_ret (results_tmp rfl _ _ _) rfl ?_
   refine⟨?_,vU.out⟩
   rw [zG.out,decide_eq_true hr,decide_eq_true he]
   rfl
  ·have he2:(a.e == b.e)=false:=by simpa using he
   go_wp2_with fail
   refine bodyPost_ret (results_tmp rfl _ _ _) rfl ?_
   refine⟨?_,vU.out⟩
   rw [zG.out,decide_eq_true hr,decide_eq_false he]
   rfl
 ·rw [decide_eq_false hr]
  go_wp2_with fail
  refine bodyPost_ret (results_tmp rfl _ _ _) rfl ?_
  refine⟨?_,vU.out⟩
  rw [zG.out,decide_eq_false hr]
  rfl
def SameP (w:World)(l1 l2:List AnsM)(e:Ending)(w':World):Prop:=∃b:Bool,e = .returned (.bool b)∧(l1=l2→b=true)∧Kept (fun _=>False) w w'
theorem nP {w:World}{a1 a2:Option Addr}{n1 n2 c1 c2:Nat}{l1 l2:List AnsM}(h1:AnsL (aD w) (.slice a1 n1 c1) l1)(h2:AnsL (aD w) (.slice a2 n2 c2) l2) :
  Calls Tryz.prog 19 #[.slice a1 n1 c1,.slice a2 n2 c2] w (SameP w l1 l2):=by
 obtain⟨xs,hx,hxr⟩:=h1
 obtain⟨ys,hy,hyr⟩:=h2
 have e1:n1=xs.length:=by obtain⟨_,_,ao,c,h3,_⟩:=hxr;exact(Value.slice.inj h3).2.1
 have e2:n2=ys.length:=by obtain⟨_,_,ao,c,h3,_⟩:=hyr;exact(Value.slice.inj h3).2.1
 rw [←e1]at hxr
 rw [←e2]at hyr
 have hmx:=hxr.len
 have At:=CM e1.symm
 have xZ:=CM e2.symm
 have HX:=CM hx
 have HY:=CM hy
 have BA:=CM hxr
 have CH:=CM hyr
 have uv:=CM (Sat.start w)
 by_cases hn:n1=n2
 ·subst hn
  clear hx hy hxr hyr e1 e2
  have hne:((n1:Int) == (n1:Int))=true:=by simp
  go_enter Tryz.func19,Tryz.ntmps19
  go_wp2_with fail
  go_loopw [5] (fun iv wr=>∃k:Nat,iv = .int .i64 k∧k≤n1∧Kept (fun _=>False) w wr) (fun iv _=>n1-(intOf iv).toNat)
  case atStart=>exact⟨0,rfl,Nat.zero_le _,Kept.refl _ _⟩
  case round =>
   obtain⟨k,rfl,hk,hkr⟩:=hrel
   have HK:=CM hkr
   have yt:=CM (uv.out.kept hkr)
   clear hkr
   by_cases hlt:k<n1
   ·have hki:(k:Int)<(n1:Int):=by omega
    obtain⟨x,hx⟩:∃x,xs[k]?=some x:=⟨xs[k]'(by rw [At.out];exact hlt),List.getElem?_eq_getElem _⟩
    obtain⟨y,hy⟩:∃y,ys[k]?=some y:=⟨ys[k]'(by rw [xZ.out];exact hlt),List.getElem?_eq_getElem _⟩
    obtain⟨a,ha,hxa⟩:=HX.out.get hx
    obtain⟨b,hb,hyb⟩:=HY.out.get hy
    obtain⟨g1,o1,e1,r1⟩:=bK AnsE.len (BA.out.rd yt.out) hx At.out
    obtain⟨g2,o2,e2,r2⟩:=bK AnsE.len (CH.out.rd yt.out) hy xZ.out
    have HA:=CM ha
    have HB:=CM hb
    have xK:=CM (bF (AnsE.len _) (show wr.drew.rangeAt g1 (o1+k*3) x.cells from r1))
    have vi:=CM (bF (AnsE.len _) (show wr.drew.rangeAt g2 (o2+k*3) y.cells from r2))
    have uz:=CM (sO (hxa.mono yt.out.drew.pool) (hyb.mono yt.out.drew.pool))
    subst e1 e2
    clear hx hy ha hb hxa hyb r1 r2
    go_upto_region 6 with fail
    refine af [(0,false,8),(1,false,8),(2,false,8),(3,false,8),(4,false,8),(5,false,8),(6,false,8),(7,false,8),(8,true,0),(9,false,999)] (by kernel_rfl) (by kernel_rfl) ?_
    iterate 8 (refine ae rfl rfl (fun K hK=>?_);(first|((refine cj _ _ rfl _ _ rfl _ xK.out ?_);go_simp)|((refine cj _ _ rfl _ _ rfl _ vi.out ?_);go_simp)|go_simp);refine hK _ ?_;clear hK K)
    refine ag rfl ?_
    refine au rfl (fun K hK=>?_)
    go_simp
    refine uz.out.mono ?_
    rintro e3 w3 ⟨rfl,hk3⟩
    have vI:=CM (HK.out.drew.trans hk3 (fun _ h=>h.elim))
    clear hk3 uz
    refine hK _ _ ?_
    clear hK K
    refine wpList_nil ?_
    refine And.intro ?_ ?_
    ·go_simp
    refine ae rfl rfl (fun K hK=>?_);(first|((refine cj _ _ rfl _ _ rfl _ xK.out ?_);go_simp)|((refine cj _ _ rfl _ _ rfl _ vi.out ?_);go_simp)|go_simp);refine hK _ ?_;clear hK K
    refine ah ?_
    cases hs:jc a b with
    | true =>
     go_wp2_with fail
     go_roundw
     case rel=>exact⟨k+1,by go_num,by omega,vI.out⟩
     case measure=>simp [intOf];omega
    | false =>
     go_wp2_with fail
     go_ret
     refine⟨false,rfl,fun h=>?_,vI.out⟩
     subst h
     have h9:=HA.out
     rw [HB.out]at h9
     rw [oI.2 (Option.some.inj h9).symm]at hs
     cases hs
   ·have hki:¬((k:Int)<(n1:Int)):=by omega
    go_wp2_with fail
    go_ret
    exact⟨true,rfl,fun _=>rfl,HK.out⟩
 ·have hne:((n1:Int) == (n2:Int))=false:=by simp;omega
  clear hxr hyr
  go_enter Tryz.func19,Tryz.ntmps19
  go_wp2_with fail
  go_ret
  refine⟨false,rfl,fun h=>?_,Kept.refl _ _⟩
  exact absurd (by rw [←At.out,←xZ.out,HX.out.len,HY.out.len,h]) hn
theorem rZ (ts:List (List StmM)):ts.flatten.length=jK ts:=by unfold jK;rw [List.length_flatten]
theorem FitT.flat {ts:List (List StmM)}(h:FitT ts)(i:Nat):∀s∈(ts.take i).flatten,bR s.row∧∀q∈s.sets,q.v.fit:=fun s hs=>by
 obtain⟨ss,h1,h2⟩:=List.mem_flatten.1 hs
 exact h ss (List.mem_of_mem_take h1) s h2
theorem uh (ts:List (List StmM))(i:Nat):jK (ts.take i)≤jK ts:=by
 unfold jK
 conv=>rhs;rw [←List.take_append_drop i ts,List.map_append,List.sum_append]
 omega
theorem gJ {B w:World}{D D' D0 D1:PH}{a b:Nat}{O P:OrM}{l:List HP}(le:PH.le D D')(h:Sat B D0 w (orP D1 a O::orP D b P::l)):Sat B D0 w (orP D1 a O::orP D' b P::l):=(gT le h.swap).swap
theorem AnsL.mono {D D':PH}(le:PH.le D D'){v:Value}{A:List AnsM}(h:AnsL D v A):AnsL D' v A:=by
 obtain⟨es,h1,h2⟩:=h
 exact⟨es,h1.imp (fun _ _ h=>h.mono le),h2.mono le⟩
theorem All2.app {α β:Type}{R:α→β→Prop}{l:List α}{m:List β}{l2:List α}{m2:List β}(h:All2 R l m)(h2:All2 R l2 m2):All2 R (l++l2) (m++m2):=by
 induction h with
 | nil=>exact h2
 | cons a _ ih=>exact .cons a ih
def DoAnsK (B:World)(D:PH)(l:List HP)(o:Nat)(P:OrM)(A:List AnsM)(k:Nat)(e:Ending)(w':World):Prop:=∃(a:Option Addr) (cc:Nat) (D':PH) (es:List AnsE),e = .returned (.slice a k cc)∧PH.le D D'∧es.length=k∧All2 (AnsOk D') es A∧RdP D' 3 (.slice a k cc) k (es.flatMap AnsE.cells)∧Sat B D' w' (orP D' o P::l)
theorem DoAns.words {B:World}{D:PH}{l:List HP}{o:Nat}{P:OrM}{A:List AnsM}{k:Nat}{p:OrM×List AnsM}{e:Ending}{w':World}(hp:p=(P,A))(hk:A.length=k)(h:DoAns B D l o p e w'):DoAnsK B D l o P A k e w':=by
 subst hp hk
 obtain⟨a,cc,D',h1,h2,⟨es,h3,h4⟩,h5⟩:=h
 have e1:es.length=A.length:=h3.len
 rw [e1]at h4
 exact⟨a,cc,D',es,h1,h2,e1,h3,h4,h5⟩
theorem rf {w:World}{v u:Value}{cols:List (List Bool)}{ts:List (List StmM)}(ht:TblsAt (aD w) v cols)(hx:TxnL (aD w) u ts) :
  Calls Tryz.prog 8 #[v,u] w fun r w'=>r = .returned (.bool true)∧Kept (fun _=>False) w w':=by
 obtain⟨va,vc,rfl⟩:∃a c,v = .slice a cols.length c:=by obtain⟨us,_,_,h3,_⟩:=ht;obtain⟨a,c,h⟩:=h3.shape;exact⟨a,c,h⟩
 obtain⟨ua,uc,rfl⟩:∃a c,u = .slice a ts.length c:=by
  obtain⟨a,m,c,rfl⟩:∃a m c,u = .slice a m c:=by obtain⟨es,_,h2⟩:=hx;obtain⟨a,c,h3⟩:=h2.shape;exact⟨a,_,c,h3⟩
  exact⟨a,c,by rw [hx.len]⟩
 have uk:=CM (Sat.start w)
 have HT:=CM ht
 have HX:=CM hx
 obtain⟨C,hC⟩:∃N,cols.length=N:=⟨_,rfl⟩
 rw [hC]at HT ⊢
 obtain⟨N,hN⟩:∃N,ts.length=N:=⟨_,rfl⟩
 rw [hN]at HX ⊢
 have HN:=CM hN
 clear ht hx hN hC
 go_enter Tryz.func8,Tryz.ntmps8
 go_wp2_with fail
 refine(ph w).mono ?_
 rintro e2 w2 ⟨rfl,hk2⟩
 have ur:=CM (uk.out.kept hk2)
 clear hk2 uk
 go_wp2_with fail
 refine(tt (HX.out.mono ur.out.pool)).mono ?_
 rintro e3 w3 ⟨b1,rfl,hb1,hk3⟩
 have ut:=CM (ur.out.kept hk3)
 have um:=CM hb1
 clear hk3 hb1 ur
 have yB:=CM (ut.out.end_ (PH.le.refl _))
 cases b1 with
 | false =>
  go_wp2_with fail
  refine bodyPost_ret (results_tmp rfl _ _ _) rfl ?_
  exact⟨rfl,yB.out⟩
 | true =>
 by_cases h20:C≤20
 case neg =>
  have h20i:(20:Int)<(C:Int):=by omega
  go_wp2_with fail
  refine bodyPost_ret (results_tmp rfl _ _ _) rfl ?_
  exact⟨rfl,yB.out⟩
 have h20i:¬((20:Int)<(C:Int)):=by omega
 have yE:=CM (um.out rfl)
 clear um yB
 go_wp2_with fail
 refine(mG HT.out ut.out).mono ?_
 rintro e4 w4 ⟨D1,le1,hif⟩
 have uP:=CM le1
 clear le1 ut
 cases hm:iM cols with
 | false =>
  rw [hm,if_neg (by decide)]at hif
  obtain⟨rfl,hs4⟩:=hif
  have uy:=CM hs4
  have HM:=CM hm
  clear hs4 hm
  go_wp2_with fail
  refine(mG (HT.out.mono uP.out) uy.out).mono ?_
  rintro e5 w5 ⟨D2,le2,hif⟩
  rw [HM.out,if_neg (by decide)]at hif
  obtain⟨rfl,hs5⟩:=hif
  have HK:=CM (hs5.end_ (uP.out.trans le2))
  clear hs5 le2
  go_wp2_with fail
  refine bodyPost_ret (results_tmp rfl _ _ _) rfl ?_
  exact⟨rfl,HK.out⟩
 | true =>
  rw [hm,if_pos rfl]at hif
  obtain⟨pa,rfl,hs4⟩:=hif
  have uy:=CM hs4
  have HM:=CM hm
  clear hs4 hm
  go_wp2_with fail
  refine(mG (HT.out.mono uP.out) uy.out).mono ?_
  rintro e5 w5 ⟨D2,le2,hif⟩
  rw [HM.out,if_pos rfl]at hif
  obtain⟨pb,rfl,hs5⟩:=hif
  have uA:=CM (gJ le2 hs5).swap
  have vi:=CM (uP.out.trans le2)
  clear hs5 le2 uy uP HT
  obtain⟨es,hes,hrd⟩:=HX.out
  have hel:=hes.len
  rw [HN.out]at hel
  rw [hel]at hrd
  have wP:=CM hes
  have xz:=CM hel
  have uw:=CM (hrd.mono vi.out)
  have wh:=CM HX.out.fits
  clear hes hel hrd
  obtain⟨s0,his,hz0,hz1,hz2⟩:=info_parts infoSt2
  have AW:=CM (And.intro his (And.intro hz0 (And.intro hz1 hz2)))
  clear his hz0 hz1 hz2
  obtain⟨i1,his,hz0,hz1,hz2⟩:=info_parts qp
  have uW:=CM (And.intro his (And.intro hz0 (And.intro hz1 hz2)))
  clear his hz0 hz1 hz2
  have hN12:N≤12:=by rw [←HN.out];exact yE.out.1
  go_wp2_with fail
  go_loopw [9,10,11] (fun ov av iv wr=>∃(i m:Nat) (oa aa:Option Addr) (oc ac:Nat) (D3:PH) (as_:List AnsE) (xs:List StmE) (O:OrM) (AS:List AnsM),ov = .slice oa m oc∧av = .slice aa m ac∧iv = .int .i64 i∧i≤N∧PH.le D2 D3∧as_.length=m∧xs.length=m∧m≤100∧(d6 cols).run (ts.take i).flatten=(O,AS)∧All2 (StmOk D3) xs (ts.take i).flatten∧All2 (AnsOk D3) as_ AS∧Sat w D3 wr (aF bl 3 (.slice oa m oc) m (as_.flatMap AnsE.cells)::aF tSt 20 (.slice aa m ac) m (xs.flatMap StmE.cells)::orP D3 pa O::orP D3 pb (d6 cols) :: [])) (fun _ _ iv _=>N-(intOf iv).toNat)
  case atStart=>exact⟨0,0,none,none,0,0,D2,[],[],d6 cols,[],rfl,rfl,rfl,Nat.zero_le _,PH.le.refl _,rfl,rfl,Nat.zero_le _,rfl,.nil,.nil,(uA.out.own_nil tSt 20).own_nil bl 3⟩
  case round =>
   obtain⟨i,m,oa,aa,oc,ac,D3,as_,xs,O,AS,rfl,rfl,rfl,hi,hle,hal,hxl,hm100,hrun,hxs,has,hsat⟩:=hrel
   have uF:=CM hle
   have vd:=CM hal
   have HXL:=CM hxl
   have xA:=CM hrun
   have yR:=CM hxs
   have B7:=CM has
   have uD:=CM hsat
   clear hle hal hxl hrun hxs has hsat uA
   by_cases hlt:i<N
   ·have hii:(i:Int)<(N:Int):=by omega
    obtain⟨t,ht⟩:∃t,es[i]?=some t:=⟨es[i]'(by rw [xz.out];exact hlt),List.getElem?_eq_getElem _⟩
    obtain⟨ss,hss,hst⟩:=wP.out.get ht
    have hmem:=List.mem_of_getElem? hss
    have x9:=CM hmem
    have hnl:=hst.len
    obtain⟨M,hM⟩:∃M,ss.length=M:=⟨_,rfl⟩
    rw [hM]at hnl
    have hst2:StmL D3 (.slice t.sa M t.sc) ss:=by rw [←hnl];exact hst.mono (vi.out.trans uF.out)
    obtain⟨zs,hzs,hzrd⟩:=id hst2
    have hzl:=hzs.len
    rw [hM]at hzl
    rw [hzl]at hzrd
    have hcnt:m+M≤100:=by
     have h1:=uh ts (i+1)
     rw [List.take_add_one,hss,Option.toList_some,kh,hM]at h1
     have h2:=yR.out.len
     rw [HXL.out,rZ]at h2
     have:=yE.out.2.1
     omega
    have wd:=CM (show(ts.take (i+1)).flatten=(ts.take i).flatten++ss by rw [List.take_add_one,hss,Option.toList_some,List.flatten_append,List.flatten_singleton])
    have vk:=CM hst2
    have zO:=CM hzs
    have BD:=CM (hzrd.rd uD.out)
    have CL:=CM hzrd
    have BE:=CM hzl
    have BF:=CM hM
    obtain⟨ug,uog,rfl,hr⟩:=bK TxnE.len ((uw.out.mono uF.out).rd uD.out) ht xz.out
    have x0:=hr 0 _ rfl
    have x1:=hr 1 _ rfl
    rw [Nat.add_zero]at x0
    rw [hnl]at x1
    have yS:=CM (show ∀(W:World) (D':PH) (L:List HP),PH.le D3 D'→Sat w D' W L→W.cell? ⟨ug,uog+i*2,none⟩=some (.int .i64 t.lev)∧W.cell? ⟨ug,uog+i*2+1,none⟩=some (.slice t.sa M t.sc)from fun W D' L le hs=>by
     obtain⟨g2,og2,hg2,hr⟩:=bK TxnE.len ((uw.out.mono (uF.out.trans le)).rd hs) ht xz.out
     cases hg2
     have x0:=hr 0 _ rfl
     have x1:=hr 1 _ rfl
     rw [Nat.add_zero]at x0
     rw [hnl]at x1
     exact⟨x0,x1⟩)
    clear ht hss hst hst2 hzs hzrd hzl hr hmem hM hnl
    go_wp2_with fail
    go_loopw [12] (fun kv wq=>∃k:Nat,kv = .int .i64 k∧k≤M∧pq (ss.take k)∧wq=wr) (fun kv _=>M-(intOf kv).toNat)
    case atStart=>exact⟨0,rfl,Nat.zero_le _,(fun s hs=>by cases hs),rfl⟩
    case round =>
     obtain⟨k,rfl,hk,hpl,rfl⟩:=hrel
     have vw:=CM hpl
     clear hpl
     have x1:=(yS.out wr D3 _ (PH.le.refl _) uD.out).2
     by_cases hlt2:k<M
     ·have hki:(k:Int)<(M:Int):=by omega
      obtain⟨z,hz⟩:∃z,zs[k]?=some z:=⟨zs[k]'(by rw [BE.out];exact hlt2),List.getElem?_eq_getElem _⟩
      obtain⟨s,hs,hok⟩:=zO.out.get hz
      obtain⟨sg,so,hsa,hrg⟩:=bK StmE.len BD.out hz BE.out
      have y0:=hrg 0 _ rfl
      rw [Nat.add_zero,hok.kind]at y0
      rw [hsa]at x1
      have zF:=CM (show ss.take (k+1)=ss.take k ++ [s] by rw [List.take_add_one,hs];rfl)
      have vU:=CM (uD.out.drop.drop.drop.drop.end_ (vi.out.trans uF.out))
      clear hz hs hok hrg
      by_cases k4:s.kind=4
      ·rw [k4]at y0
       clear k4
       go_wp2_with fail
       refine bodyPost_ret (results_tmp rfl _ _ _) rfl ?_
       exact⟨rfl,vU.out⟩
      by_cases k5:s.kind=5
      ·rw [k5]at y0
       clear k4 k5
       go_wp2_with fail
       refine bodyPost_ret (results_tmp rfl _ _ _) rfl ?_
       exact⟨rfl,vU.out⟩
      have e4:(s.kind == 4)=false:=by simpa using k4
      have e5:(s.kind == 5)=false:=by simpa using k5
      by_cases k13:13≤s.kind
      ·clear k4 k5
       go_wp2_with fail
       refine bodyPost_ret (results_tmp rfl _ _ _) rfl ?_
       exact⟨rfl,vU.out⟩
      ·have xM:=CM (show qd s.kind from⟨k4,k5,by omega⟩)
       clear k4 k5
       go_wp2_with fail
       go_roundw
       case rel =>
        refine⟨k+1,by go_num,by omega,fun q hq=>?_,by trivial⟩
        rw [zF.out]at hq
        rcases List.mem_append.1 hq with hq|hq
        ·exact vw.out q hq
        ·obtain rfl:=List.mem_singleton.1 hq
         exact xM.out
       case measure=>simp [intOf];omega
     ·obtain rfl:k=M:=by omega
      have hki:¬((k:Int)<(k:Int)):=by omega
      have hall:ss.take k=ss:=List.take_of_length_le (Nat.le_of_eq BF.out)
      rw [hall]at vw
      clear hall
      have yg:=CM (run_app (d6 cols) (ts.take i).flatten vw.out)
      rw [xA.out,←wd.out]at yg
      have hoi:=(mX cols).run (ts.take i).flatten (wh.out.flat i) (by have:=yR.out.len;rw [HXL.out]at this;omega)
      rw [xA.out]at hoi
      have zv:=CM hoi
      have hnp:∀s∈ss,s.pred.nodes.length≤1000000:=fun s hs=>by have:=(yE.out.2.2 ss x9.out s hs).2.2;omega
      have ye:=CM hnp
      have hlen:(ts.take i).flatten.length=m:=by rw [←yR.out.len,HXL.out]
      have hn150:0+(ts.take i).flatten.length+ss.length≤150:=by rw [hlen,BF.out];omega
      have HSB:=CM (uD.out.front 1 rfl)
      clear hoi hnp hlen uD
      go_upto_region 23 with (at_builtin;refine aI _ rfl _ _ tSts rfl tSt s0 _ 20 232 Tryz.underlying49 AW.out.1 AW.out.2.1 AW.out.2.2.1 AW.out.2.2.2 rfl _ m _ rfl HSB.out _ k _ rfl BD.out (by intro u hu;obtain⟨x,_,hx⟩:=List.mem_flatMap.1 hu;exact x.one u hx) (by unfold maxLen;omega) (by omega) ?_;intro v7 w7 hs7 h17;obtain⟨qa,qc,rfl⟩:=hs7.own_shape;have vb:=CM (hs7.front 2 rfl);clear hs7 h17 HSB BD x1)
      obtain⟨x0,x1⟩:=yS.out w7 D3 _ (PH.le.refl _) vb.out
      have xI:=CM (pp (lev:=t.lev) vk.out ye.out zv.out hn150 vb.out)
      obtain⟨O2,hO2⟩:∃P,(O.run ss).1=P:=⟨_,rfl⟩
      obtain⟨A2,hA2⟩:∃A,(O.run ss).2=A:=⟨_,rfl⟩
      have hal2:A2.length=k:=by rw [←hA2];exact(gR _ _).trans BF.out
      have CI:=CM hal2
      rw [show O.run ss=(O2,A2) by rw [←hO2,←hA2]]at yg
      have xI:=CM (xI.out.mono (fun e w' h=>h.words (show O.run ss=(O2,A2) by rw [←hO2,←hA2]) hal2))
      clear hO2 hA2 hal2 vb
      go_wp2_with (first|(go_at_call 17;refine xI.out.mono ?_;rintro e8 w8 ⟨ra,rc,D4,as2,rfl,hle4,hl2,has2,hrd2,hs8⟩;have BG:=CM hl2;have BH:=CM has2;have vH:=CM hle4;have ve:=CM (hs8.front 2 rfl);have B8:=CM (hrd2.rd hs8);clear hle4 has2 hrd2 hl2 hs8 xI x0 x1)|(at_builtin;refine aI _ rfl _ _ tAnss rfl bl i1 _ 3 40 Tryz.underlying47 uW.out.1 uW.out.2.1 uW.out.2.2.1 uW.out.2.2.2 rfl _ m _ rfl ve.out _ k _ rfl B8.out (by intro u hu;obtain⟨x,_,hx⟩:=List.mem_flatMap.1 hu;exact x.one u hx) (by unfold maxLen;omega) (by omega) ?_;intro v9 w9 hs9 h19;obtain⟨ya,yc,rfl⟩:=hs9.own_shape;have vt:=CM hs9;clear hs9 h19 ve B8))
      go_roundw
      case rel =>
       refine⟨i+1,m+k,ya,qa,yc,qc,D4,as_++as2,xs++zs,O2,AS++A2,rfl,rfl,by go_num,by omega,uF.out.trans vH.out,by rw [List.length_append,vd.out,BG.out],by rw [List.length_append,HXL.out,BE.out],hcnt,yg.out,?_,?_,?_⟩
       ·rw [wd.out]
        exact(yR.out.imp (fun _ _ h=>h.mono vH.out)).app (zO.out.imp (fun _ _ h=>h.mono vH.out))
       ·exact(B7.out.imp (fun _ _ h=>h.mono vH.out)).app BH.out
       ·rw [List.flatMap_append,List.flatMap_append]
        exact(((gT vH.out (vt.out.front 3 rfl)).front 2 rfl).front 3 rfl).front 3 rfl
      case measure=>simp [intOf];omega
   ·obtain rfl:i=N:=by omega
    have hii:¬((i:Int)<(i:Int)):=by omega
    have hall:ts.take i=ts:=List.take_of_length_le (Nat.le_of_eq HN.out)
    rw [hall]at xA yR
    have hfit:=wh.out.flat i
    rw [hall]at hfit
    clear hall
    have hlen:ts.flatten.length=m:=by rw [←yR.out.len,HXL.out]
    have hoi:=(mX cols).run ts.flatten hfit (by omega)
    rw [xA.out]at hoi
    have zv:=CM hoi
    obtain⟨D4,le4,rall,hs6⟩:=(uD.out.front 1 rfl).own_give
    obtain⟨D5,le5,rone,hs7⟩:=hs6.own_give
    have hst:StmL D5 (.slice aa m ac) ts.flatten:=⟨xs,yR.out.imp (fun _ _ h=>h.mono (le4.trans le5)),by rw [HXL.out];exact rall.mono le5⟩
    have hnp:∀s∈ts.flatten,s.pred.nodes.length≤1000000:=fun s hs=>by
     obtain⟨ss,h1,h2⟩:=List.mem_flatten.1 hs
     have:=(yE.out.2.2 ss h1 s h2).2.2
     omega
    have hone:AnsL D5 (.slice oa m oc) AS:=⟨as_,B7.out.imp (fun _ _ h=>h.mono (le4.trans le5)),by rw [vd.out];exact rone⟩
    have hs8:=(gT (le4.trans le5) (gJ (le4.trans le5) (show Sat w D5 wr (orP D3 pa O::orP D3 pb (d6 cols) :: [])from hs7))).swap
    have xI:=CM (pp (lev:=0) hst hnp (mX cols) (by omega) hs8)
    have vN:=CM hone
    have AV:=CM (vi.out.trans (uF.out.trans (le4.trans le5)))
    have hal2:AS.length=m:=by have h1:=gR (bZ (d6 cols).cols (d6 cols).tabs) ts.flatten;rw [hlen]at h1;rw [←h1];exact(congrArg (fun p=>p.2.length) xA.out).symm
    have xI:=CM (xI.out.mono (fun e w' h=>h.words xA.out hal2))
    clear hfit hlen hoi le4 rall hs6 le5 rone hs7 hst hnp hone hs8 hal2 uD
    go_wp2_with fail
    refine xI.out.mono ?_
    rintro e8 w8 ⟨ra,rc,D6,as2,rfl,hle6,hl2,has2,hrd2,hs9⟩
    have AF:=CM (show AnsL D6 (.slice ra m rc) AS from⟨as2,has2,by rw [hl2];exact hrd2⟩)
    have zA:=CM (AV.out.trans hle6)
    have HSB:=CM (gJ hle6 hs9)
    have yT:=CM (vN.out.mono hle6)
    clear hle6 hl2 has2 hrd2 hs9 xI
    go_wp2_with fail
    have B9:=CM (nP (yT.out.mono HSB.out.pool) (AF.out.mono HSB.out.pool))
    refine B9.out.mono ?_
    rintro e9 w9 ⟨b,rfl,hb,hk9⟩
    obtain rfl:=hb rfl
    have vt:=CM (HSB.out.kept hk9)
    clear hb hk9 B9 HSB yT vN AF
    go_wp2_with fail
    go_loopw [15] (fun iv wr=>∃(k:Nat) (D7:PH),iv = .int .i64 k∧k≤C∧PH.le D6 D7∧Sat w D7 wr (orP D7 pb O::orP D7 pa O :: [])) (fun iv _=>C-(intOf iv).toNat)
    case atStart=>exact⟨0,D6,rfl,Nat.zero_le _,PH.le.refl _,vt.out⟩
    case round =>
     obtain⟨k,D7,rfl,hk,hle7,hsat⟩:=hrel
     have yD:=CM hle7
     have uD:=CM hsat
     clear hle7 hsat vt
     by_cases hlt:k<C
     ·have hki:(k:Int)<(C:Int):=by omega
      have vm:=CM (mF (k:Int) zv.out uD.out.swap)
      go_wp2_with (go_at_call 21;refine vm.out.mono ?_;rintro e6 w6 ⟨ra,rc,D8,rfl,hle8,hr8,hs8⟩;have BI:=CM hle8;have Ca:=CM hr8;have vB:=CM (gJ hle8 hs8).swap;clear hle8 hr8 hs8 vm uD)
      refine(mF (k:Int) zv.out vB.out).mono ?_
      rintro e9 w9 ⟨ra2,rc2,D9,rfl,hle9,hr9,hs9⟩
      have BJ:=CM (BI.out.trans hle9)
      have Bk:=CM hr9
      have BK:=CM (Ca.out.mono hle9)
      have vt:=CM (gJ hle9 hs9)
      clear hle9 hr9 hs9 Ca vB
      go_wp2_with fail
      refine(ou (BK.out.1.rd vt.out) (Bk.out.1.rd vt.out)).mono ?_
      rintro e10 w10 ⟨he10,hk10⟩
      have ve:=CM (vt.out.kept hk10)
      rw [decide_eq_true (rfl:ic O k=ic O k)]at he10
      subst he10
      clear hk10 vt
      go_wp2_with fail
      go_roundw
      case rel=>exact⟨k+1,D9,by go_num,by omega,yD.out.trans BJ.out,ve.out⟩
      case measure=>simp [intOf];omega
     ·have hki:¬((k:Int)<(C:Int)):=by omega
      have vU:=CM (uD.out.drop.drop.end_ (zA.out.trans yD.out))
      clear uD
      go_wp2_with fail
      refine bodyPost_ret (results_tmp rfl _ _ _) rfl ?_
      exact⟨rfl,vU.out⟩
end Go.Proofs.YtdobimafhbfkhaaGreat
