/- The document's transaction: back to a savepoint (ratlineref15.back), and what follows. -/
import Derived.Test.YtdobimafhbfkhaaGreatOY48
import Derived.Test.YtdobimafhbfkhaaGreatOY44
set_option maxHeartbeats 64000000
namespace Go.Proofs.YtdobimafhbfkhaaGreat
open Go.ChangeShapes Go.WideShapes Go.ChangeAt Go.RowKit
set_option maxRecDepth 100000
set_option linter.unusedSimpArgs false
def iH (s v:Int):Int:=if s<v then 0 else v
def ip (s:Int)(l:List Int)(i:Nat):List Int:=(l.take i).map (iH s)++l.drop i
section
variable {s v : Int} {l : List Int} {i k : Nat}
theorem o9 (h:l[k]?=some v):(ip s l i)[k]?=some (if k<i then iH s v else v):=by
 have hlt:=(FO.1 h).1;unfold ip;by_cases hk:k<i
 ·rw [if_pos hk,Gm (by rw [FZ,F0];omega),Gg,List.getElem?_take,if_pos hk,h]
  rfl
 ·rw [if_neg hk,Gb (by rw [FZ,F0];omega),FZ,F0,List.getElem?_drop,show i+(k-min i l.length)=k by omega,h]
theorem tK (h:l[k]?=some s):(ip s l i)[k]?=some s:=by
 rw [o9 h];unfold iH;split<;>simp
theorem nB (h:l[i]?=some v):ip s l (i+1)=(ip s l i).set i (iH s v):=by
 have hlt:=(FO.1 h).1;unfold ip;rw [List.set_append_right _ _ (by rw [FZ,F0];omega),FZ,F0,show i-min i l.length=0 by omega,List.drop_eq_getElem_cons hlt,FK,F3,h,List.map_append];simp
theorem ur (h:l[i]?=some v)(hv:iH s v=v):ip s l (i+1)=ip s l i:=by
 rw [nB h,hv];refine List.ext_getElem? fun j=>?_;by_cases hj:i=j
 ·subst hj
  have:=o9 (s:=s) (i:=i) h;rw [if_neg (Nat.lt_irrefl _)]at this;rw [FX (FO.1 this).1,this]
 ·rw [F8 hj]
theorem vG (h0:l[0]?=some 0)(_hs:0≤s):ip s l 1=l:=by
 cases l with
 | nil=>cases h0
 | cons a t =>
  simp at h0;subst h0;unfold ip iH;simp
  try omega
theorem u9' (h:l.length≤i):ip s l i=l.map (iH s):=by unfold ip;rw [FS h,Gk h,List.append_nil]
end
theorem DxOk.back {D:PH}{X:TxM}{E:DxE}{k:Nat}{s:Int}{v:VT}(h:DxOk D X E)(hs:X.saves[k]?=some s)(h0:s≠0)(hv:E.sv[k]?=some v) :
  X.back (k:Int)=({ X with tabs:=bl X.tabs (X.log.drop (s-1).toNat),log:=X.log.take (s-1).toNat,saves:=X.saves.map (iH s) },bJ 0)∧DxOk D (X.back (k:Int)).1 { E with lv:=v,ns:=X.saves.map (iH s),ch:=s-1 }:=by
 obtain⟨p1,p2,p3⟩:=h.saved k s v hs h0 hv;have e:X.back (k:Int)=({ X with tabs:=bl X.tabs (X.log.drop (s-1).toNat),log:=X.log.take (s-1).toNat,saves:=X.saves.map (iH s) },bJ 0):=by
  unfold TxM.back;rw [F6,FW,hs,Option.getD_some,if_neg h0]
  rfl
 refine⟨e,?_⟩;rw [e];refine⟨⟨h.lens.1,by show(X.saves.map _).length=4;rw [FZ,←h.ns];exact h.lens.2.1,h.lens.2.2⟩,h.tables,p3,rfl,fun n q u h1 h2 h3=>?_,?_,h.cs,h.few,?_⟩
 ·have h1':(X.saves.map (iH s))[n]?=some q:=h1
  rw [Gg]at h1';obtain⟨q0,hq0,hq1⟩:=Option.map_eq_some_iff.1 h1';unfold iH at hq1;split at hq1
  ·exact absurd hq1.symm h2
  ·next hle =>
   subst hq1;obtain⟨a,b,c⟩:=h.saved n q0 u hq0 h2 h3;have hBA:(q0-1).toNat≤(s-1).toNat:=by omega
   refine⟨a,by show _≤(X.log.take _).length;rw [F0];omega,?_⟩
   show TabsL D u.v (bl (bl X.tabs (X.log.drop (s-1).toNat)) ((X.log.take (s-1).toNat).drop (q0-1).toNat));rw [←fP,←List.drop_append_of_le_length (by rw [F0];omega),Gj];exact c
 ·show s-1=((X.log.take (s-1).toNat).length:Int)
  rw [F0];omega
 ·show(X.saves.map (iH s))[0]?=some 0
  rw [Gg,h.zero]
  show some (iH s 0)=some 0;unfold iH;rw [if_neg (by omega)]
theorem uV {B w:World}{D:PH}{l:List HP}{x k n c:Nat}{X:TxM}(hI:TxI n c X)(hk:k<4)(hlog:X.log.length+200≤1000000)(h:gt B w D x X l) :
  Calls Tryz.prog 51 #[.pointer (some ⟨x,0,none⟩),.int .i64 k] w (DxAns B D x l (X.back (k:Int))):=by
 obtain⟨E,hE,hs⟩:=h;obtain⟨s,hsv⟩:∃s,X.saves[k]?=some s:=⟨X.saves[k]'(by rw [hI.two.1];exact hk),FP _⟩;obtain⟨v,hv⟩:∃v,E.sv[k]?=some v:=⟨E.sv[k]'(by rw [hE.lens.1];exact hk),FP _⟩;have hs0:=hI.saves s (FQ hsv);obtain⟨W1,hW1,hs1⟩:∃W,W=w.alloc (.cells aZ aL)∧Sat B D W (blk x E.cells.toArray tDx::blk w.heap.size aZ aL::l):=⟨_,rfl,(hs.alloc aZ aL).swap⟩;have wM:=FH hW1;have wG:=FH hs1;have HE:=FH hE;have xW:=FH hsv;have HV:=FH hv;have H4:=FH hI.two.1;have Bm:=FH hlog;have hki:(k:Int)<4:=by omega
 have q6:=dr hs1 (pX hE.lens (by rw [hE.ns];exact hsv));have q2:=dr hs1 (dx_sv hv);have cf:=(bS hs1).2.2;obtain⟨q1,q10⟩:W1.cell? ⟨x,1,none⟩=some E.lv.v∧W1.cell? ⟨x,10,none⟩=some (.int .i64 E.ch):=⟨(bS hs1).2.1,dr hs1 (mP hE.lens)⟩;clear hs hW1 hs1 hE hI hsv hv hlog;go_enter Tryz.func51,Tryz.ntmps51;go_upto_region 1 with fail
 rw [←wM.out];clear wM;generalize w.heap.size=br at wG ⊢;by_cases hz:s=0
 ·subst hz
  have HB:=FH (show X.back (k:Int)=(X,bJ 70) by unfold TxM.back;rw [F6,FW,xW.out];rfl);have wH:=FH (wG.out.swap);clear hs0;go_wp2_with (refine ah rfl _ _ _ rfl aL br rfl [.int .i64 70,.slice none 0 0,.int .i64 0] rfl _ wH.out (by kernel_rfl) rfl (by intro u hu;simp at hu;rcases hu with rfl|rfl|rfl<;>rfl) ?_;intro w7 hs7;have wP:=FH hs7;clear hs7 wH);refine bodyPost_ret (av rfl _ _ rfl (aJ rfl (aj (wP.out.blk 0 rfl)))) rfl ?_;rw [HB.out];exact DxAns.plain (PH.le.refl _) ⟨E,HE.out,wP.out.drop⟩
 ·have hz0:(s == 0)=false:=by simpa using hz
  have HZ:=FH hz;clear hz;go_upto_region 4 with fail
  have wJ:=FH (ga wG.out (nX (E:=E) v));obtain⟨W2,hW2⟩:∃W,W=W1.setCell ⟨x,1,none⟩ v.v:=⟨_,rfl⟩;rw [←hW2]at wJ ⊢;clear hW2 wG q6 q2 cf q1 q10;have wU:=FH (show({ E with lv:=v }:DxE).lens from HE.out.lens);have q6:=dr wJ.out (pX wU.out (by show E.ns[k]?=_;rw [HE.out.ns];exact xW.out));have q10:=dr wJ.out (mP wU.out);have cf:=(bS wJ.out).2.2;have hs9:=(HE.out.saved k s v xW.out HZ.out HV.out).2.1;have hlg:=Bm.out;obtain⟨z,hz⟩:∃z,s-1=z:=⟨_,rfl⟩;have hw1:IntKind.i64.wrap (s-1)=z:=by rw [Gr _ (by omega)];exact hz
  have wI:=FH (ga wJ.out (gl wU.out z));have Fz:=FH hz;clear hz hs9 hlg;go_upto_region 5 with fail
  obtain⟨W3,hW3⟩:∃W,W=W2.setCell ⟨x,10,none⟩ (.int .i64 z):=⟨_,rfl⟩;rw [←hW3]at wI ⊢;clear hW3 wJ q6 q10 cf hw1 wU;have wW:=FH hs0;clear hs0;go_wp2_with fail
  go_loopw [5] (fun iv wr=>∃j:Nat,iv = .int .i64 j∧1≤j∧j≤4∧Sat B D wr (blk x ({ E with lv:=v,ch:=z,ns:=ip s X.saves j }:DxE).cells.toArray tDx::blk br aZ aL::l)) (fun iv _=>4-(intOf iv).toNat)
  case atStart =>
   refine⟨1,rfl,by omega,by omega,?_⟩;rw [vG HE.out.zero wW.out,←HE.out.ns];exact wI.out
  case round =>
   obtain⟨j,rfl,hj1,hj4,hs5⟩:=hrel;clear wI;have wT:=FH hs5;clear hs5;obtain⟨F,hF⟩:∃F:DxE,F = { E with lv:=v,ch:=z,ns:=ip s X.saves j }:=⟨_,rfl⟩;rw [←hF]at wT;by_cases hlt:j<4
   ·have hji:(j:Int)≤3:=by omega
    have hjn:(j:Int)<4:=by omega
    have hFl:F.lens:=by rw [hF];exact⟨HE.out.lens.1,by show(ip s X.saves j).length=4;unfold ip;rw [FR,FZ,F0,Ga,H4.out];omega,HE.out.lens.2.2⟩
    obtain⟨u,hu⟩:∃u,X.saves[j]?=some u:=⟨X.saves[j]'(by rw [H4.out];exact hlt),FP _⟩;have wK:=FH wT.out.drew;have qj:=dr wK.out (pX (n:=j) (s:=u) hFl (by rw [hF];show(ip s X.saves j)[j]?=_;rw [o9 hu,if_neg (Nat.lt_irrefl _)]));have qk:=dr wK.out (pX (n:=k) (s:=s) hFl (by rw [hF];exact tK xW.out));have cf:=(bS wK.out).2.2;have wP:=FH (ga wK.out (nx hFl hlt 0));have HU:=FH hu;have HF:=FH hF;clear hu hF hFl wT;go_upto_region 8 with fail
    refine aH [rq 0 999,rq 1 999,rq 2 999,rq 3 999,rq 4 999,rq 5 999,rq 6 999,rq 7 999,rq 8 999,rq 9 999,rq 10 999,rq 11 999,rq 12 999] ?_;(iterate 13 (refine ae rfl rfl fun K hK=>?_;go_simp;apply hK;clear hK K));refine ag ?_;by_cases hg:s<u
    ·go_wp2_with fail
     go_roundw
     case rel =>
      refine⟨j+1,by go_num,by omega,by omega,?_⟩;have h6:=wP.out;rw [HF.out]at h6;rw [nB HU.out,show iH s u=0 from if_pos hg];exact h6
     case measure=>simp [intOf];omega
    ·go_wp2_with fail
     go_roundw
     case rel =>
      refine⟨j+1,by go_num,by omega,by omega,?_⟩;have h6:=wK.out;rw [HF.out]at h6;rw [ur HU.out (show iH s u=u from if_neg hg)];exact h6
     case measure=>simp [intOf];omega
   ·obtain rfl:j=4:=by omega
    have hji:¬(((4:Nat):Int)≤3):=by decide
    have HF:=FH hF;have wH:=FH (wT.out.swap);clear hF;go_wp2_with (refine ah rfl _ _ _ rfl aL br rfl [.int .i64 0,.slice none 0 0,.int .i64 0] rfl _ wH.out (by kernel_rfl) rfl (by intro u hu;simp at hu;rcases hu with rfl|rfl|rfl<;>rfl) ?_;intro w7 hs7;have wP:=FH hs7;clear hs7 wH wT);refine bodyPost_ret (av rfl _ _ rfl (aJ rfl (aj (wP.out.blk 0 rfl)))) rfl ?_;obtain⟨e1,e2⟩:=HE.out.back xW.out HZ.out HV.out;have h7:=wP.out.drop;rw [HF.out,u9' (Nat.le_of_eq H4.out),←Fz.out]at h7;rw [e1]at e2 ⊢;exact DxAns.plain (PH.le.refl _) ⟨_,e2,h7⟩
@[go_sem] theorem sizeDc (x:DcE):x.cells.toArray.size=17:=rfl
theorem oQ {w:World}{g o:Nat}{x:DcE}(h:w.rangeAt g o x.cells):(loadVar tDc ⟨g,o,none⟩).run Tryz.prog w = .ok (.agg x.cells.toArray) w:=run_loadVar_mid w g o _ _ _ h Tryz.underlying102 rfl (by kernel_rfl)
theorem sM {w:World}{b:Nat}{x:DcE}{t:TypeId}{fr:Nat×Nat}(h:w.heap[b]?=some (.cells x.cells.toArray t fr)) :
  w.cell? ⟨b,0,none⟩=some (.bool x.opn)∧w.cell? ⟨b,1,none⟩=some (.int .i64 x.table) ∧
  (w.cell? ⟨b,2,none⟩=some (.int .i64 x.pe.op)∧w.cell? ⟨b,3,none⟩=some (.int .i64 x.pe.col)∧w.cell? ⟨b,4,none⟩=some (.bool x.pe.v.t)∧w.cell? ⟨b,5,none⟩=some (.int .i64 x.pe.v.n)∧w.cell? ⟨b,6,none⟩=some (.string x.pe.v.s) ∧
   w.cell? ⟨b,7,none⟩=some (.bool x.pe.w.t)∧w.cell? ⟨b,8,none⟩=some (.int .i64 x.pe.w.n)∧w.cell? ⟨b,9,none⟩=some (.string x.pe.w.s)∧w.cell? ⟨b,10,none⟩=some (.slice x.pe.la x.pe.ln x.pe.lc)) ∧
  w.cell? ⟨b,11,none⟩=some (.bool x.change)∧w.cell? ⟨b,12,none⟩=some (.bool x.stands)∧w.cell? ⟨b,13,none⟩=some (.bool x.behind) ∧
  (w.cell? ⟨b,14,none⟩=some (.bool x.key.t)∧w.cell? ⟨b,15,none⟩=some (.int .i64 x.key.n)∧w.cell? ⟨b,16,none⟩=some (.string x.key.s)):=by
 refine⟨?_,?_,⟨?_,?_,?_,?_,?_,?_,?_,?_,?_⟩,?_,?_,?_,?_,?_,?_⟩<;>(rw [cell_of_row w b _ _ _ _ h];rfl)
section
variable {B w : World} {D : PH} {x n : Nat} {X : TxM} {E : DxE} {l : List HP}
theorem ee {P:Program}{ops:Array Oper}{rest:List Oper}{oo:Oper}{a:Act}{Q:Exit→Act→World→Prop}(hgd:oo.guard=none)(ty:TypeId)(xo yo:Operand)(ho:oo.op = .store ty xo yo)(off:Nat)(hx:a.eval xo = .pointer (some ⟨x,off,none⟩))(hoff:off=11+n*17)(c:DcE)(hy:a.eval yo = .agg c.cells.toArray)
  (hs:Sat B D w (blk x E.cells.toArray tDx::l)) (hl:E.lens) (hn:n<3) (hi:(P.info? ty).map (·.size)=some 17)
  (h:∀w',Sat B D w' (blk x ({ E with cs:=E.cs.set n c }:DxE).cells.toArray tDx::l)→wpList P ops Q rest (a.put oo.dst undef) w'):wpList P ops Q (oo::rest) a w:=by
 subst hoff;refine cZ hgd ty xo yo ho tDx x _ hx c.cells hy E.cells hs (by rw [DcE.len];exact hi) (by rw [DcE.len,dx_len hl];omega) (DcE.one c) (fun w' hs'=>h w' ?_);rw [tG hl hn]at hs';exact hs'
theorem DxOk.setCs (h:DxOk D X E){c:DcE}{m:CurM}(hc:DcOk D c m):DxOk D (X.setCur (n:Int) m) { E with cs:=E.cs.set n c } :=
 ⟨⟨h.lens.1,h.lens.2.1,by show(E.cs.set n c).length=3;rw [FV];exact h.lens.2.2⟩,h.tables,h.rows,h.ns,h.saved,h.ch,by
  show All2 (DcOk D) (E.cs.set n c) (X.curs.set (n:Int).toNat m);rw [F6];exact h.cs.set hc n,h.few,h.zero⟩
theorem dx_tbl {i:Nat}{cc:List Bool}(hE:DxOk D X E)(hcc:X.cols[i]?=some cc)(h:Sat B D w (blk x E.cells.toArray tDx::l)) :
  ∃tg tog tc ca ccap,E.tv.v = .slice (some ⟨tg,tog,none⟩) X.cols.length tc∧vT D (.slice ca cc.length ccap) cc∧∀W L,Sat B D W L→W.cell? ⟨tg,tog+i,none⟩=some (.slice ca cc.length ccap):=by
 obtain⟨vs,t1,t2,t3,t4⟩:=id hE.tables;have hil:=(FO.1 hcc).1;obtain⟨cv,hcv⟩:∃cv,vs[i]?=some cv:=⟨vs[i]'(by omega),FP _⟩;have hcol:=t4 i cv cc hcv hcc;obtain⟨ca,ccap,rfl⟩:=hcol.shape;obtain⟨ta,tc,htv⟩:=t3.shape;rw [htv]at t3;obtain⟨tg,tog,rfl,_⟩:=ji (t3.rd h) hcv hil;refine⟨tg,tog,tc,ca,ccap,htv,hcol,fun W L hs=>?_⟩;obtain⟨g,og,hg,hc⟩:=ji (t3.rd hs) hcv hil;cases hg;exact hc
end
theorem RdP.one2 {D:PH}{ao:Option Addr}{N cap:Nat}{us:List Value}{u:Value}(h:RdP D 1 (.slice ao N cap) N us)(hu:us[0]?=some u)(hN:0<N):RdP D 1 (.slice ao 1 cap) 1 [u]:=by
 obtain⟨h1,h2,ao',cap',h3,h4,h5,h6,h7⟩:=h;cases h3;refine⟨rfl,by unfold maxLen;omega,ao,cap,rfl,by omega,h5,h6,?_⟩;rcases h7 with h7|⟨g,o,rfl,cs,t,fr,h8,h9⟩
 ·omega
 ·refine .inr ⟨g,o,rfl,cs,t,fr,h8,fun j v hv=>?_⟩
  cases j with
  | zero=>simp at hv;subst hv;exact h9 0 _ hu
  | succ j=>simp at hv
theorem RowsF.head2 {D:PH}{ao:Option Addr}{N cap:Nat}{us:List Value}{u:Value}{r:List Val}(h:RdP D 1 (.slice ao N cap) N us)(hu:us[0]?=some u)(hN:0<N)(hr:wl D u r)(hf:bG r)(h1:u.oneCell'=true):RowsF D (.slice ao 1 cap) [r]:=by
 refine⟨⟨[u],rfl,by intro v hv;simp at hv;subst hv;exact h1,h.one2 hu hN,fun j v q hv hq=>?_⟩,by intro q hq;simp at hq;subst hq;exact hf⟩;cases j with
 | zero=>simp at hv hq;subst hv hq;exact hr
 | succ j=>simp at hv
def dc0 : DcE:=⟨false,0,⟨0,0,⟨false,0,⟨#[]⟩⟩,⟨false,0,⟨#[]⟩⟩,none,0,0,[]⟩,false,false,false,⟨false,0,⟨#[]⟩⟩⟩
theorem oK (D:PH):DcOk D dc0 kT:=⟨rfl,fun h=>by cases h⟩
theorem qb (c:DcE)(b:Bool):c.cells.toArray.setIfInBounds 12 (.bool b)=({ c with stands:=b }:DcE).cells.toArray:=rfl
theorem uF (c:DcE)(b:Bool):c.cells.toArray.setIfInBounds 13 (.bool b)=({ c with behind:=b }:DcE).cells.toArray:=rfl
theorem rl {B w:World}{D:PH}{l:List HP}{x n c:Nat}{X:TxM}{e:StmE}{s:StmM}(hs:StmOk D e s)(hok:okS X.cols s=true)(hk:14≤s.kind∧s.kind≤17)(hI:TxI n c X)(hlog:X.log.length+200≤1000000)(h:gt B w D x X l) :
  Calls Tryz.prog 54 #[.pointer (some ⟨x,0,none⟩),.agg e.cells.toArray] w (DxAns B D x l (if s.kind=14 then X.fetch s.cursor else if s.kind=17 then X.close s else X.at_ s)):=by
 obtain⟨A,hA⟩:∃a,(if s.kind=14 then X.fetch s.cursor else if s.kind=17 then X.close s else X.at_ s)=a:=⟨_,rfl⟩;rw [hA];have HA:=FH hA;clear hA;obtain⟨E,hE,hsat⟩:=h;obtain⟨k,hsc,hk3⟩:=jO hok (by omega);obtain⟨m,hm,hcm,hcur⟩:=hI.cur hk3;obtain⟨c,hc⟩:∃c,E.cs[k]?=some c:=⟨E.cs[k]'(by rw [hE.lens.2.2];exact hk3),FP _⟩;obtain⟨m',hm',hdc⟩:=hE.cs.get hc;rw [hm]at hm';cases hm';obtain⟨W1,hW1,hs1⟩:∃W,W=(w.alloc (.cells e.cells.toArray tSt)).alloc (.cells aZ aL)∧Sat B D W (blk x E.cells.toArray tDx::blk (w.heap.size+1) aZ aL::blk w.heap.size e.cells.toArray tSt::l):=by
  have h1:=(hsat.alloc e.cells.toArray tSt).alloc aZ aL;rw [World.size_alloc]at h1;exact⟨_,rfl,h1.front 2 rfl⟩
 have yy:=FH (show ∀W L,Sat B D W (blk x E.cells.toArray tDx::L)→∀j v,c.cells[j]?=some v→W.cell? ⟨x,11+k*17+j,none⟩=some v from fun W L hs' j v hv=>by
  have:=dr hs' (dx_cs hE.lens hc hv)
  rwa [←Nat.add_assoc]at this)
 have wM:=FH hW1;have wG:=FH hs1;have HE:=FH hE;have HI:=FH hI;have wR:=FH hs;have BI:=FH hdc;have yA:=FH hcm;have BA:=FH hcur;have xR:=FH hsc;have HK:=FH hk;have xV:=FH hk3;have xM:=FH hlog;have Aa:=FH (show e.cursor=(k:Int)from hs.cursor.trans hsc);have hn3:(k:Int)<3:=by omega
 clear hs hok hk hI hlog hE hsat hsc hm hcm hcur hc hdc hW1 hs1 hk3;go_enter Tryz.func54,Tryz.ntmps54;go_upto_region 1 with fail
 rw [←wM.out];clear wM;generalize w.heap.size+1=ba at wG ⊢;generalize w.heap.size=bs at wG ⊢;obtain⟨x0,x2,x3,x4,x5,x6,x7,x17,x18,x19⟩:=aO (wG.out.blk 2 rfl);rw [Aa.out]at x18;have AD:=FH (oQ (yy.out _ _ wG.out.drew));refine aH [rq 0 8,rq 1 8,rq 2 8,rq 3 8,rq 4 8,rq 5 8,rq 6 8,(7,true,0),(8,true,0)] ?_;iterate 7 (refine ae rfl rfl fun K hK=>?_;(first|((refine bF _ _ rfl _ _ rfl _ AD.out ?_);go_simp)|go_simp);apply hK;clear hK K)
 refine af rfl ?_;refine wpList_plain rfl fun K hK=>?_;go_simp;refine hK _ _ ?_;clear hK K;refine wpList_nil ?_;clear x0 x2 x3 x4 x5 x6 x7 x17 x18 x19;have wJ:=FH ((wG.out.alloc (Array.mk [.bool false,.int .i64 0,.int .i64 0,.int .i64 0,.bool false,.int .i64 0,.string ⟨#[]⟩,.bool false,.int .i64 0,.string ⟨#[]⟩,.slice none 0 0,.bool false,.bool false,.bool false,.bool false,.int .i64 0,.string ⟨#[]⟩]) tDc).drew);obtain⟨W2,hW2⟩:∃W,W=(W1.alloc (.cells (Array.mk [.bool false,.int .i64 0,.int .i64 0,.int .i64 0,.bool false,.int .i64 0,.string ⟨#[]⟩,.bool false,.int .i64 0,.string ⟨#[]⟩,.slice none 0 0,.bool false,.bool false,.bool false,.bool false,.int .i64 0,.string ⟨#[]⟩]) tDc)).drew:=⟨_,rfl⟩;rw [←hW2]at wJ ⊢;clear hW2;generalize W1.heap.size=bc at wJ ⊢;have AV:=FH (oQ (yy.out W2 _ wJ.out.swap));obtain⟨x0,x2,x3,x4,x5,x6,x7,x17,x18,x19⟩:=aO (wJ.out.blk 3 rfl);rw [Aa.out]at x18;apply And.intro
 ·(refine And.intro (by(unfold Pend.ok;split<;>first|exact bF _ _ rfl _ _ rfl _ AV.out rfl|trivial)) ?_;go_simp)
 refine af rfl ?_;refine ah rfl _ _ _ rfl tDc bc rfl c.cells rfl _ wJ.out (by kernel_rfl) rfl (DcE.one c) ?_;intro w3 hs3;refine wpList_nil ?_;have wI:=FH hs3.swap;clear hs3 wJ wG x0 x2 x3 x4 x5 x6 x7 x17 x18 x19;apply And.intro
 ·go_simp
 refine ag ?_;clear AD AV yy;obtain⟨q0,q1,⟨q2,q3,q4,q5,q6,q7,q8,q9,q10⟩,q11,q12,q13,q14,q15,q16⟩:=sM (wI.out.blk 1 rfl);rw [BI.out.1]at q0;obtain⟨x0,x2,x3,x4,x5,x6,x7,x17,x18,x19⟩:=aO (wI.out.blk 3 rfl);rw [wR.out.kind]at x0;rw [Aa.out]at x18;cases hop:m.opn with
 | false =>
  rw [hop]at q0;have xq:=FH (show A=(X,bJ 161) by
   rw [←HA.out];unfold TxM.fetch TxM.close TxM.at_;rw [xR.out,yA.out,hop];split
   ·rfl
   ·split<;>rfl)
  have wH:=FH (wI.out.front 2 rfl);clear hop;go_wp2_with (refine ah rfl _ _ _ rfl aL ba rfl [.int .i64 161,.slice none 0 0,.int .i64 0] rfl _ wH.out (by kernel_rfl) rfl (by intro u hu;simp at hu;rcases hu with rfl|rfl|rfl<;>rfl) ?_;intro w7 hs7;have wP:=FH hs7;clear hs7 wH);refine bodyPost_ret (av rfl _ _ rfl (aJ rfl (aj (wP.out.blk 0 rfl)))) rfl ?_;rw [xq.out];exact DxAns.plain (PH.le.refl _) ⟨E,HE.out,wP.out.drop.swap.drop.swap.drop⟩
 | true =>
  rw [hop]at q0;obtain⟨⟨i,hti,hil⟩,hst⟩:=BA.out hop;obtain⟨cc,mt,hcc,hmt,hT,h200,hmn,-⟩:=HI.out.tab hil;obtain⟨d1,d2,d3,d4,d5,d6,d7,d8,d9⟩:=BI.out.2 hop;rw [d1,hti]at q1;by_cases h14:s.kind=14
  ·have Ak:=FH (show A=X.fetch (k:Int) by rw [←HA.out,if_pos h14,xR.out])
   have Cs:=FH (show cz mt c.pe.p (pT c.behind c.key)=cz mt m.p m.frm by rw [d2,d7]);have xZ:=FH (show ∀r∈mt,0<r.length from fun r hr=>(hT.short r hr).1);have xJ:=FH (jL (pe:=c.pe) (b:=c.behind) (k:=c.key) HE.out.rows hmt xZ.out (by omega) d3 (by rw [d2];exact d4) d8 wI.out);rw [Cs.out]at xJ;rw [h14]at x0;have zb:=FH hop;have yD:=FH hti;have AG:=FH hmt;have Cp:=FH hT;clear HA Cs h14 hop hti hmt d1 d2 d3 d4 d5 d6 d7 d8 d9 hcc hT h200 hmn hst hil;go_upto_region 7 with (go_at_call 58;refine xJ.out.mono ?_;rintro e4 w4 ⟨ra,rn,rc,D4,rfl,hle,hrf,hs4⟩;obtain rfl:=cK hrf;have wU:=FH hle;have yN:=FH hrf;have wO:=FH hs4;clear hle hrf hs4 xJ wI x0 x2 x3 x4 x5 x6 x7 x17 x18 x19 q0 q1 q2 q3 q4 q5 q6 q7 q8 q9 q10 q11 q12 q13 q14 q15 q16)
   obtain⟨q0,q1,⟨q2,q3,q4,q5,q6,q7,q8,q9,q10⟩,q11,q12,q13,q14,q15,q16⟩:=sM (wO.out.blk 1 rfl);have qf:∀j,w4.frozen? ⟨bc,j,none⟩=false:=fun j=>by simp [World.frozen?,wO.out.blk 1 rfl]
   cases hrs:cz mt m.p m.frm with
   | nil =>
    have xq:=FH (show A=(X.setCur (k:Int) { m with stands:=false },bJ 162) by rw [Ak.out,j7 yA.out zb.out yD.out AG.out hrs]);have wT:=FH (wO.out.swap.set 12 (.bool false));rw [qb]at wT;clear hrs yN;rw [List.length_nil];go_upto_region 9 with fail
    obtain⟨W5,hW5⟩:∃W,W=w4.setCell ⟨bc,12,none⟩ (.bool false):=⟨_,rfl⟩;rw [←hW5]at wT ⊢;clear hW5 wO qf q0 q1 q2 q3 q4 q5 q6 q7 q8 q9 q10 q11 q12 q13 q14 q15 q16;have AD:=FH (oQ (aj (wT.out.drew.blk 0 rfl)));obtain⟨x0,x2,x3,x4,x5,x6,x7,x17,x18,x19⟩:=aO (wT.out.blk 3 rfl);rw [Aa.out]at x18;refine aH [rq 0 7,rq 1 7,rq 2 7,rq 3 7,rq 4 7,rq 5 7,rq 6 7,(7,true,0)] ?_;(iterate 7 (refine ae rfl rfl fun K hK=>?_;(first|((refine bF _ _ rfl _ _ rfl _ AD.out ?_);go_simp)|go_simp);apply hK;clear hK K));refine af rfl ?_;refine ee (n:=k) rfl _ _ _ rfl _ rfl rfl ({ c with stands:=false }:DcE) rfl wT.out.drew.swap HE.out.lens xV.out (by kernel_rfl) ?_;intro w6 hs6;refine wpList_nil ?_;have wH:=FH (hs6.front 2 rfl);clear hs6 wT AD x0 x2 x3 x4 x5 x6 x7 x17 x18 x19;apply And.intro
    ·go_simp
    refine ag ?_;go_wp2_with (refine ah rfl _ _ _ rfl aL ba rfl [.int .i64 162,.slice none 0 0,.int .i64 0] rfl _ wH.out (by kernel_rfl) rfl (by intro u hu;simp at hu;rcases hu with rfl|rfl|rfl<;>rfl) ?_;intro w7 hs7;have wP:=FH hs7;clear hs7 wH);refine bodyPost_ret (av rfl _ _ rfl (aJ rfl (aj (wP.out.blk 0 rfl)))) rfl ?_;rw [xq.out];refine DxAns.plain wU.out ⟨_,(HE.out.mono wU.out).setCs (c:={ c with stands:=false }) (m:={ m with stands:=false }) ⟨BI.out.1,fun ho=>?_⟩,wP.out.drop.swap.drop.swap.drop⟩;obtain⟨d1,d2,d3,d4,d5,d6,d7,d8,d9⟩:=BI.out.2 ho;exact⟨d1,d2,d3.mono wU.out,d4,d5,rfl,d7,d8,fun h=>by cases h⟩
   | cons r rs =>
    have hrm:r∈mt:=dH (by rw [hrs];exact Gc ..);have hpos:=xZ.out r hrm;have hr0:r[0]?=some (au r):=by cases r with|nil=>cases hpos|cons a t=>rfl
    have xq:=FH (show A=(X.setCur (k:Int) { m with stands:=true,key:=au r,frm:=⟨false,true,true,au r,false,false,default⟩ },⟨0,[r],0⟩) by rw [Ak.out,jn yA.out zb.out yD.out AG.out hrs]);have Bx:=FH (show(au r).fits from(Cp.out.fit r hrm _ (FQ hr0)).2);obtain⟨kk,hkk⟩:∃kk,au r=kk:=⟨_,rfl⟩;rw [hkk]at xq Bx hr0;rw [hrs]at yN;obtain⟨⟨us,hu1,hu2,hu3,hu4⟩,hfit⟩:=yN.out;obtain⟨N,hN⟩:∃N,(r::rs).length=N:=⟨_,rfl⟩;have hNp:(0:Int)<(N:Int):=by rw [←hN,List.length_cons];omega
    have hNp2:0<N:=by omega
    have hN0:((N:Int) == 0)=false:=by simp;omega
    rw [hN]at hu3 ⊢;obtain⟨u,hu⟩:∃u,us[0]?=some u:=⟨us[0]'(by rw [hu1,List.length_cons];omega),FP _⟩;have HU:=FH hu;have zo:=FH hu3;have wQ:=FH (hu4 0 u r hu rfl);have xH:=FH (hfit r (Gc ..));have yG:=FH hr0;have hpos2:(0:Int)<(r.length:Int):=by omega
    have wT:=FH (wO.out.swap.set 12 (.bool true));rw [qb]at wT;clear hrs yN hu1 hu2 hu3 hu4 hfit hu hr0 hrm hkk hN hpos Ak xZ AG Cp;go_upto_region 11 with fail
    obtain⟨W5,hW5⟩:∃W,W=w4.setCell ⟨bc,12,none⟩ (.bool true):=⟨_,rfl⟩;rw [←hW5]at wT ⊢;clear hW5 wO qf q0 q1 q2 q3 q4 q5 q6 q7 q8 q9 q10 q11 q12 q13 q14 q15 q16 hN0;obtain⟨q0,q1,⟨q2,q3,q4,q5,q6,q7,q8,q9,q10⟩,q11,q12,q13,q14,q15,q16⟩:=sM (wT.out.blk 0 rfl);have qf:∀j,W5.frozen? ⟨bc,j,none⟩=false:=fun j=>by simp [World.frozen?,wT.out.blk 0 rfl]
    have wK:=FH (wT.out.set 13 (.bool true));rw [uF]at wK;go_upto_region 12 with fail
    obtain⟨W6,hW6⟩:∃W,W=W5.setCell ⟨bc,13,none⟩ (.bool true):=⟨_,rfl⟩;rw [←hW6]at wK ⊢;clear hW6 wT qf q0 q1 q2 q3 q4 q5 q6 q7 q8 q9 q10 q11 q12 q13 q14 q15 q16;obtain⟨ao,rcc,rfl⟩:∃ao rc,u = .slice ao r.length rc:=by obtain⟨_,_,ao,rc,h,_⟩:=wQ.out;exact⟨ao,rc,h⟩
    obtain⟨rg,rog,rfl⟩:=cT (RdP.rd wQ.out wK.out) yG.out rfl;obtain⟨y0,y1,y2⟩:=aE (h:=0) (RdP.rd wQ.out wK.out) yG.out;rw [Nat.zero_mul,Nat.add_zero]at y0 y1 y2;have DY:=FH (RowsF.head2 zo.out HU.out hNp2 wQ.out xH.out rfl);obtain⟨fg,fo,rfl,hcu,hrc⟩:∃fg fo,ra=some ⟨fg,fo,none⟩∧W6.cell? ⟨fg,fo,none⟩=some (.slice (some ⟨rg,rog,none⟩) r.length rcc)∧N≤rc:=by
     obtain⟨_,_,ao,cap,hv,hrc,_,_,hcell⟩:=zo.out.rd wK.out;cases hv;rcases hcell with h0|⟨g,og,hg,hcc⟩
     ·omega
     ·exact⟨g,og,hg,hcc 0 _ HU.out,hrc⟩
    have hrc1:1≤rc:=by omega
    have hrc2:(1:Int)≤(rc:Int):=by omega
    generalize r.length=RN at *;go_upto_region 13 with (refine cZ rfl _ _ _ rfl tDc bc 14 rfl [.bool kk.t,.int .i64 kk.n,.string kk.s] rfl ({ c with stands:=true,behind:=true }:DcE).cells wK.out (by kernel_rfl) (by rw [DcE.len];exact Gn _) (by intro u hu;simp at hu;rcases hu with rfl|rfl|rfl<;>rfl) ?_;intro w7 hs7;have wP:=FH (show Sat B D4 w7 (blk bc ({ c with stands:=true,behind:=true,key:=kk }:DcE).cells.toArray tDc::_)from hs7);clear hs7 wK hcu y0 y1 y2)
    have AD:=FH (oQ (aj (wP.out.drew.blk 0 rfl)));obtain⟨x0,x2,x3,x4,x5,x6,x7,x17,x18,x19⟩:=aO (wP.out.blk 3 rfl);rw [Aa.out]at x18;go_upto_region 13 with fail
    refine aH [rq 0 7,rq 1 7,rq 2 7,rq 3 7,rq 4 7,rq 5 7,rq 6 7,(7,true,0)] ?_;(iterate 7 (refine ae rfl rfl fun K hK=>?_;(first|((refine bF _ _ rfl _ _ rfl _ AD.out ?_);go_simp)|go_simp);apply hK;clear hK K));refine af rfl ?_;refine ee (n:=k) rfl _ _ _ rfl _ rfl rfl ({ c with stands:=true,behind:=true,key:=kk }:DcE) rfl wP.out.drew.swap HE.out.lens xV.out (by kernel_rfl) ?_;intro w8 hs8;refine wpList_nil ?_;have wH:=FH (hs8.front 2 rfl);clear hs8 wP AD x0 x2 x3 x4 x5 x6 x7 x17 x18 x19;apply And.intro
    ·go_simp
    refine ag ?_;go_wp2_with (refine ah rfl _ _ _ rfl aL ba rfl [.int .i64 0,.slice (some ⟨fg,fo,none⟩) 1 rc,.int .i64 0] rfl _ wH.out (by kernel_rfl) rfl (by intro u hu;simp at hu;rcases hu with rfl|rfl|rfl<;>rfl) ?_;intro w7 hs7;have wP:=FH hs7;clear hs7 wH);refine bodyPost_ret (av rfl _ _ rfl (aJ rfl (aj (wP.out.blk 0 rfl)))) rfl ?_;rw [xq.out];refine⟨_,1,rc,D4,rfl,wU.out,DY.out,_,(HE.out.mono wU.out).setCs (c:={ c with stands:=true,behind:=true,key:=kk }) (m:={ m with stands:=true,key:=kk,frm:=⟨false,true,true,kk,false,false,default⟩ }) ⟨BI.out.1,fun ho=>?_⟩,wP.out.drop.swap.drop.swap.drop⟩;obtain⟨d1,d2,d3,d4,d5,d6,d7,d8,d9⟩:=BI.out.2 ho;exact⟨d1,d2,d3.mono wU.out,d4,d5,rfl,rfl,Bx.out,fun _=>rfl⟩
  ·have h14b:(s.kind == 14)=false:=by simpa using h14
   have Ak:=FH (show(if s.kind=17 then X.close s else X.at_ s)=A by rw [←HA.out,if_neg h14]);clear HA;by_cases h17:s.kind=17
   ·have xq:=FH (show A=(X.setCur (k:Int) kT,bJ 0) by rw [←Ak.out,if_pos h17];unfold TxM.close;rw [xR.out,yA.out,hop];rfl)
    rw [h17]at x0;clear h14 h14b h17 hop d1 d2 d3 d4 d5 d6 d7 d8 d9 hcc hmt hT h200 hmn hst hti hil;go_upto_region 16 with fail
    refine aH [rq 0 7,rq 1 7,rq 2 7,rq 3 7,rq 4 7,rq 5 7,rq 6 7,(7,true,0)] ?_;(iterate 7 (refine ae rfl rfl fun K hK=>?_;go_simp;apply hK;clear hK K));refine af rfl ?_;refine ee (n:=k) rfl _ _ _ rfl _ rfl rfl dc0 rfl wI.out.drew HE.out.lens xV.out (by kernel_rfl) ?_;intro w4 hs4;refine wpList_nil ?_;have wH:=FH (hs4.front 2 rfl);clear hs4 wI x0 x2 x3 x4 x5 x6 x7 x17 x18 x19 q0 q1 q2 q3 q4 q5 q6 q7 q8 q9 q10 q11 q12 q13 q14 q15 q16;apply And.intro
    ·go_simp
    refine ag ?_;go_wp2_with (refine ah rfl _ _ _ rfl aL ba rfl [.int .i64 0,.slice none 0 0,.int .i64 0] rfl _ wH.out (by kernel_rfl) rfl (by intro u hu;simp at hu;rcases hu with rfl|rfl|rfl<;>rfl) ?_;intro w7 hs7;have wP:=FH hs7;clear hs7 wH);refine bodyPost_ret (av rfl _ _ rfl (aJ rfl (aj (wP.out.blk 0 rfl)))) rfl ?_;rw [xq.out];exact DxAns.plain (PH.le.refl _) ⟨_,HE.out.setCs (oK D),wP.out.drop.swap.drop.swap.drop⟩
   ·have h17b:(s.kind == 17)=false:=by simpa using h17
    have Dy:=FH (show X.at_ s=A by rw [←Ak.out,if_neg h17]);clear Ak;rw [d6]at q12;rw [d5]at q11;by_cases hall:m.stands=true∧m.change=true
    ·obtain⟨hs1,hs2⟩:=hall
     have hkr:=hst hs1;have hck:=d9 hs1;have zN:=FH (show X.at_ s=if s.kind=16 then X.drop (i:Int) m.key else if !cG cc s.sets then (X,bJ 167)else X.one (i:Int) m.key s.sets by
      unfold TxM.at_;rw [xR.out,yA.out,hop,hs1,hs2,hti,fF hcc]
      rfl)
     rw [hs1]at q12;rw [hs2]at q11;have FA:=FH (show c.table=(i:Int)from d1.trans hti);have FB:=FH hck;rw [hck]at q14 q15 q16;clear hop d1 d2 d3 d4 d5 d6 d7 d8 d9 hst hs1 hs2 hti hck;by_cases h16:s.kind=16
     ·have HP:=FH (nG (k:=m.key) HI.out hil hkr xM.out ⟨E,HE.out,wI.out⟩)
      have xq:=FH (show A=X.drop (i:Int) m.key by rw [←Dy.out,zN.out,if_pos h16]);rw [h16]at x0;clear h14 h14b h17 h17b h16 hcc hmt hT h200 hmn hil hkr;go_wp2_with (first|(go_at_call 53;refine HP.out.mono ?_;rintro e2 w4 ⟨ra,rn,rc,D2,rfl,hle,hrw,E4,hE4,hs4⟩;have wU:=FH hle;have xg:=FH hrw;have At:=FH hE4;have wH:=FH (hs4.front 2 rfl);clear hle hrw hE4 hs4 HP wI x0 x2 x3 x4 x5 x6 x7 x17 x18 x19 q0 q1 q2 q3 q4 q5 q6 q7 q8 q9 q10 q11 q12 q13 q14 q15 q16)|(refine ah rfl _ _ _ rfl aL ba rfl [_,.slice ra rn rc,_] rfl _ wH.out (by kernel_rfl) rfl (by intro u hu;simp at hu;rcases hu with rfl|rfl|rfl<;>rfl) ?_;intro w7 hs7;have wP:=FH hs7;clear hs7 wH));refine bodyPost_ret (av rfl _ _ rfl (aJ rfl (aj (wP.out.blk 0 rfl)))) rfl ?_;rw [xq.out];exact⟨ra,rn,rc,D2,rfl,wU.out,xg.out,E4,At.out,wP.out.drop.swap.drop.swap.drop⟩
     ·have h16b:(s.kind == 16)=false:=by simpa using h16
      have zC:=FH (show X.at_ s=if !cG cc s.sets then (X,bJ 167)else X.one (i:Int) m.key s.sets by rw [zN.out,if_neg h16]);have hmy:cj cc=true:=HE.out.few.2 cc (FQ hcc);obtain⟨tg,tog,tc,ca,ccap,htv,hcol,htc⟩:=dx_tbl HE.out hcc wI.out;have hlc:(i:Int)<(X.cols.length:Int):=by omega
      obtain⟨c0,c1,cf⟩:=bS wI.out;rw [htv]at c0;have ttc:=htc _ _ wI.out;have xF:=FH (lM (l:=s.sets) hmy (RdP.rd hcol wI.out.drew) (RdP.rd wR.out.sets.1 wI.out.drew));have yI:=FH wR.out.sets;obtain⟨sv,hsv⟩:∃v,e.sets.v=v:=⟨_,rfl⟩;obtain⟨sa,sn,sc,hsv2⟩:∃a n c,sv = .slice a n c:=⟨_,_,_,hsv.symm⟩;subst hsv2;have hsv0:=FH hsv;rw [hsv]at x7 xF yI;have yj:=FH hcc;generalize X.cols.length=CN at *;clear hcol hsv h14 h17 h16 hcc hmt hT h200 hmn hil hkr htc htv hmy;go_upto_region 22 with fail
      refine aH [rq 0 11,rq 1 11,rq 2 11,rq 3 11,rq 4 11,rq 5 11,rq 6 11,rq 7 11,rq 8 11,rq 9 11,rq 10 11,(11,true,0),rq 12 999] ?_;(iterate 11 (refine ae rfl rfl fun K hK=>?_;go_simp;apply hK;clear hK K));refine af rfl ?_;refine al rfl fun K hK=>?_;go_simp;refine xF.out.mono ?_;rintro e2 w4 ⟨rfl,hk4⟩;have wO:=FH (wI.out.drew.kept hk4);clear hk4 xF wI c0 c1 cf ttc x0 x2 x3 x4 x5 x6 x7 x17 x18 x19 q0 q1 q2 q3 q4 q5 q6 q7 q8 q9 q10 q11 q12 q13 q14 q15 q16;refine hK _ _ ?_;clear hK K;refine wpList_nil ?_;apply And.intro
      ·go_simp
      refine ae rfl rfl fun K hK=>?_;go_simp;apply hK;clear hK K;refine ag ?_;cases hst:cG cc s.sets with
      | false =>
       have xq:=FH (show A=(X,bJ 167) by rw [←Dy.out,zC.out,hst];rfl);have wH:=FH (wO.out.front 2 rfl);clear hst;go_wp2_with (refine ah rfl _ _ _ rfl aL ba rfl [.int .i64 167,.slice none 0 0,.int .i64 0] rfl _ wH.out (by kernel_rfl) rfl (by intro u hu;simp at hu;rcases hu with rfl|rfl|rfl<;>rfl) ?_;intro w7 hs7;have wP:=FH hs7;clear hs7 wH);refine bodyPost_ret (av rfl _ _ rfl (aJ rfl (aj (wP.out.blk 0 rfl)))) rfl ?_;rw [xq.out];exact DxAns.plain (PH.le.refl _) ⟨E,HE.out,wP.out.drop.swap.drop.swap.drop⟩
      | true =>
       have xq:=FH (show A=X.one (i:Int) m.key s.sets by rw [←Dy.out,zC.out,hst];rfl);have HP:=FH (sE (k:=m.key) HI.out yj.out hst yI.out xM.out ⟨E,HE.out,wO.out⟩);obtain⟨q0,q1,⟨q2,q3,q4,q5,q6,q7,q8,q9,q10⟩,q11,q12,q13,q14,q15,q16⟩:=sM (wO.out.blk 1 rfl);rw [FA.out]at q1;rw [FB.out]at q14 q15 q16;obtain⟨x0,x2,x3,x4,x5,x6,x7,x17,x18,x19⟩:=aO (wO.out.blk 3 rfl);rw [hsv0.out]at x7;clear hst;go_wp2_with (first|(go_at_call 52;refine HP.out.mono ?_;rintro e2 w5 ⟨ra,rn,rc,D2,rfl,hle,hrw,E5,hE5,hs5⟩;have wU:=FH hle;have xg:=FH hrw;have Bo:=FH hE5;have wH:=FH (hs5.front 2 rfl);clear hle hrw hE5 hs5 HP wO x0 x2 x3 x4 x5 x6 x7 x17 x18 x19 q0 q1 q2 q3 q4 q5 q6 q7 q8 q9 q10 q11 q12 q13 q14 q15 q16)|(refine ah rfl _ _ _ rfl aL ba rfl [_,.slice ra rn rc,_] rfl _ wH.out (by kernel_rfl) rfl (by intro u hu;simp at hu;rcases hu with rfl|rfl|rfl<;>rfl) ?_;intro w7 hs7;have wP:=FH hs7;clear hs7 wH));refine bodyPost_ret (av rfl _ _ rfl (aJ rfl (aj (wP.out.blk 0 rfl)))) rfl ?_;rw [xq.out];exact⟨ra,rn,rc,D2,rfl,wU.out,xg.out,E5,Bo.out,wP.out.drop.swap.drop.swap.drop⟩
    ·have xq:=FH (show A=(X,bJ 161) by
      rw [←Dy.out];unfold TxM.at_;rw [xR.out,yA.out,hop];refine if_pos ?_;cases h2:m.stands<;>cases h3:m.change<;>first|rfl|exact absurd ⟨h2,h3⟩ hall)
     have wH:=FH (wI.out.front 2 rfl);cases h2:m.stands
     ·rw [h2]at q12
      clear hall h2 hop d1 d2 d3 d4 d5 d6 d7 d8 d9 hcc hmt hT h200 hmn hst hti hil h14 h17;go_wp2_with (refine ah rfl _ _ _ rfl aL ba rfl [.int .i64 161,.slice none 0 0,.int .i64 0] rfl _ wH.out (by kernel_rfl) rfl (by intro u hu;simp at hu;rcases hu with rfl|rfl|rfl<;>rfl) ?_;intro w7 hs7;have wP:=FH hs7;clear hs7 wH);refine bodyPost_ret (av rfl _ _ rfl (aJ rfl (aj (wP.out.blk 0 rfl)))) rfl ?_;rw [xq.out];exact DxAns.plain (PH.le.refl _) ⟨E,HE.out,wP.out.drop.swap.drop.swap.drop⟩
     ·cases h3:m.change
      ·rw [h2]at q12
       rw [h3]at q11;clear hall h2 h3 hop d1 d2 d3 d4 d5 d6 d7 d8 d9 hcc hmt hT h200 hmn hst hti hil h14 h17;go_wp2_with (refine ah rfl _ _ _ rfl aL ba rfl [.int .i64 161,.slice none 0 0,.int .i64 0] rfl _ wH.out (by kernel_rfl) rfl (by intro u hu;simp at hu;rcases hu with rfl|rfl|rfl<;>rfl) ?_;intro w7 hs7;have wP:=FH hs7;clear hs7 wH);refine bodyPost_ret (av rfl _ _ rfl (aJ rfl (aj (wP.out.blk 0 rfl)))) rfl ?_;rw [xq.out];exact DxAns.plain (PH.le.refl _) ⟨E,HE.out,wP.out.drop.swap.drop.swap.drop⟩
      ·exact absurd ⟨h2,h3⟩ hall
end Go.Proofs.YtdobimafhbfkhaaGreat
