/- The document's transaction in memory, and what follows. -/
import Derived.Test.YtdobimafhbfkhaaGreatOY47
import Derived.Test.YtdobimafhbfkhaaGreatOY41
import Derived.Test.YtdobimafhbfkhaaGreatOY46
import Derived.Test.YtdobimafhbfkhaaGreatOY40
import Derived.Test.YtdobimafhbfkhaaGreatOY45
set_option maxHeartbeats 64000000
namespace Go.Proofs.YtdobimafhbfkhaaGreat
open Go.ChangeShapes Go.WideShapes Go.ChangeAt Go.RowKit
set_option maxRecDepth 100000
set_option linter.unusedSimpArgs false
abbrev tDx : TypeId:=105
abbrev tDc : TypeId:=102
structure DcE where
 opn:Bool
 table:Int
 pe:PredE
 change:Bool
 stands:Bool
 behind:Bool
 key:Val
def DcE.cells (c:DcE):List Value:=[.bool c.opn,.int .i64 c.table]++c.pe.cells ++ [.bool c.change,.bool c.stands,.bool c.behind]++c.key.cells
theorem DcE.len (c:DcE):c.cells.length=17:=rfl
theorem DcE.one (c:DcE):∀u∈c.cells,u.oneCell'=true:=by
 intro u hu;simp [DcE.cells,PredE.cells,Val.cells]at hu;rcases hu with rfl|rfl|rfl|rfl|rfl|rfl|rfl|rfl|rfl|rfl|rfl|rfl|rfl|rfl|rfl|rfl|rfl<;>rfl
structure DxE where
 tv:VT
 lv:VT
 sv:List VT
 ns:List Int
 ch:Int
 cs:List DcE
def DxE.cells (E:DxE):List Value:=E.tv.v::E.lv.v::(E.sv.map RowT.v++(E.ns.map (Value.int .i64)++(.int .i64 E.ch::E.cs.flatMap DcE.cells)))
def DxE.lens (E:DxE):Prop:=E.sv.length=4∧E.ns.length=4∧E.cs.length=3
section
variable {E : DxE} {n : Nat}
theorem dx_len (h:E.lens):E.cells.length=62:=by
 unfold DxE.cells;simp only [List.length_cons,FR,FZ,h.1,h.2.1,cH DcE.len,h.2.2]
theorem dx_sv {v:VT}(hv:E.sv[n]?=some v):E.cells[2+n]?=some v.v:=by
 have hlt:=(FO.1 hv).1;unfold DxE.cells;rw [show 2+n=n+1+1 by omega,List.getElem?_cons_succ,List.getElem?_cons_succ,Gm (by rw [FZ];exact hlt),Gg,hv]
 rfl
theorem pX (h:E.lens){s:Int}(hs:E.ns[n]?=some s):E.cells[6+n]?=some (.int .i64 s):=by
 have hlt:=(FO.1 hs).1;unfold DxE.cells;rw [show 6+n=n+4+1+1 by omega,List.getElem?_cons_succ,List.getElem?_cons_succ,Gb (by rw [FZ,h.1];omega),FZ,h.1,Nat.add_sub_cancel,Gm (by rw [FZ];exact hlt),Gg,hs]
 rfl
theorem sH (h:E.lens)(k:Nat):E.cells[10+k]?=(Value.int .i64 E.ch::E.cs.flatMap DcE.cells)[k]?:=by
 unfold DxE.cells;rw [show 10+k=k+8+1+1 by omega,List.getElem?_cons_succ,List.getElem?_cons_succ,Gb (by rw [FZ,h.1];omega),FZ,h.1,Gb (by rw [FZ,h.2.1];omega),FZ,h.2.1,show k+8-4-4=k by omega]
theorem mP (h:E.lens):E.cells[10]?=some (.int .i64 E.ch):=sH h 0
theorem dx_cs (h:E.lens){c:DcE}{j:Nat}{v:Value}(hc:E.cs[n]?=some c)(hj:c.cells[j]?=some v):E.cells[11+(n*17+j)]?=some v:=by
 rw [show 11+(n*17+j)=10+(n*17+j+1) by omega,sH h,List.getElem?_cons_succ];exact bB DcE.len E.cs n c hc j v hj
theorem nX (v:VT):E.cells.set 1 v.v=({ E with lv:=v }:DxE).cells:=rfl
theorem tq (h:E.lens)(hn:n<4)(v:VT):E.cells.set (2+n) v.v=({ E with sv:=E.sv.set n v }:DxE).cells:=by
 unfold DxE.cells;rw [show 2+n=n+1+1 by omega,FJ,FJ,List.set_append_left _ _ (by rw [FZ,h.1];exact hn),←List.map_set]
theorem nx (h:E.lens)(hn:n<4)(s:Int):E.cells.set (6+n) (.int .i64 s)=({ E with ns:=E.ns.set n s }:DxE).cells:=by
 unfold DxE.cells;rw [show 6+n=n+4+1+1 by omega,FJ,FJ,List.set_append_right _ _ (by rw [FZ,h.1];omega),FZ,h.1,Nat.add_sub_cancel,List.set_append_left _ _ (by rw [FZ,h.2.1];exact hn),←List.map_set]
theorem gl (h:E.lens)(z:Int):E.cells.set 10 (.int .i64 z)=({ E with ch:=z }:DxE).cells:=by
 unfold DxE.cells;rw [FJ,FJ,List.set_append_right _ _ (by rw [FZ,h.1];omega),FZ,h.1,List.set_append_right _ _ (by rw [FZ,h.2.1];omega),FZ,h.2.1]
 rfl
theorem tG (h:E.lens)(hn:n<3)(c:DcE):lay E.cells (11+n*17) c.cells=({ E with cs:=E.cs.set n c }:DxE).cells:=by
 have e:∀E:DxE,E.cells=(E.tv.v::E.lv.v::(E.sv.map RowT.v++(E.ns.map (Value.int .i64) ++ [.int .i64 E.ch])))++E.cs.flatMap DcE.cells:=fun E=>by unfold DxE.cells;simp
 have hl:11+n*17=(E.tv.v::E.lv.v::(E.sv.map RowT.v++(E.ns.map (Value.int .i64) ++ [.int .i64 E.ch]))).length+n*17:=by simp [h.1,h.2.1]
 rw [e,hl,ll,e,lY DcE.len (by rw [h.2.2];exact hn)]
end
def TabsL (D:PH)(v:Value)(T:List aq):Prop:=∃hs:List Value,hs.length=T.length∧(∀u∈hs,u.oneCell'=true)∧RdP D 1 v T.length hs∧∀(i:Nat) (h:Value) (m:aq),hs[i]?=some h→T[i]?=some m→RowsF D h m
theorem TabsL.mono {D D':PH}(le:PH.le D D'){v:Value}{T:List aq}(h:TabsL D v T):TabsL D' v T:=by
 obtain⟨hs,h1,h2,h3,h4⟩:=h;exact⟨hs,h1,h2,h3.mono le,fun i a m ha hm=>(h4 i a m ha hm).mono le⟩
def pT (b:Bool)(k:Val):Spn:=if b then ⟨false,true,true,k,false,false,default⟩else bj
def DcOk (D:PH)(c:DcE)(m:CurM):Prop:=c.opn=m.opn∧(m.opn=true→c.table=m.table∧c.pe.p=m.p∧PredsAt D (.slice c.pe.la c.pe.ln c.pe.lc) c.pe.subs∧PredFit m.p∧c.change=m.change∧c.stands=m.stands∧m.frm=pT c.behind c.key∧c.key.fits∧(m.stands=true→c.key=m.key))
theorem DcOk.mono {D D':PH}(le:PH.le D D'){c:DcE}{m:CurM}(h:DcOk D c m):DcOk D' c m:=⟨h.1,fun ho=>by
 obtain⟨a,b,c,d⟩:=h.2 ho;exact⟨a,b,c.mono le,d⟩⟩
structure DxOk (D:PH)(X:TxM)(E:DxE):Prop where
 lens:E.lens
 tables:TblsAt D E.tv.v X.cols
 rows:TabsL D E.lv.v X.tabs
 ns:E.ns=X.saves
 saved:∀(n:Nat) (s:Int) (v:VT),X.saves[n]?=some s→s≠0→E.sv[n]?=some v→0<s∧(s-1).toNat≤X.log.length∧TabsL D v.v (bl X.tabs (X.log.drop (s-1).toNat))
 ch:E.ch=X.log.length
 cs:All2 (DcOk D) E.cs X.curs
 few:X.cols.length≤20∧∀cc∈X.cols,cj cc=true
 zero:X.saves[0]?=some 0
theorem DxOk.mono {D D':PH}(le:PH.le D D'){X:TxM}{E:DxE}(h:DxOk D X E):DxOk D' X E :=
 ⟨h.lens,h.tables.mono le,h.rows.mono le,h.ns,fun n s v h1 h2 h3=>by obtain⟨a,b,c⟩:=h.saved n s v h1 h2 h3;exact⟨a,b,c.mono le⟩,h.ch,h.cs.imp (fun _ _ h=>h.mono le),h.few,h.zero⟩
def gt (B w:World)(D:PH)(x:Nat)(X:TxM)(l:List HP):Prop:=∃E:DxE,DxOk D X E∧Sat B D w (blk x E.cells.toArray tDx::l)
def Ext (X Y:TxM):Prop:=∃l,Y.log=X.log++l∧bl Y.tabs l=X.tabs
theorem Ext.refl (X:TxM):Ext X X:=⟨[],by rw [List.append_nil],rfl⟩
theorem Ext.trans {X Y Z:TxM}(h:Ext X Y)(h2:Ext Y Z):Ext X Z:=by
 obtain⟨a,a1,a2⟩:=h;obtain⟨b,b1,b2⟩:=h2;exact⟨a++b,by rw [b1,a1,FU],by rw [fP,b2,a2]⟩
theorem Ext.at {X Y:TxM}(h:Ext X Y){k:Nat}(hk:k≤X.log.length):bl Y.tabs (Y.log.drop k)=bl X.tabs (X.log.drop k):=by
 obtain⟨l,h1,h2⟩:=h;rw [h1,List.drop_append_of_le_length hk,fP,h2]
theorem bS {w:World}{x:Nat}{E:DxE}{B:World}{D:PH}{l:List HP}(h:Sat B D w (blk x E.cells.toArray tDx::l)):w.cell? ⟨x,0,none⟩=some E.tv.v∧w.cell? ⟨x,1,none⟩=some E.lv.v∧∀j,w.frozen? ⟨x,j,none⟩=false:=by
 have hb:=h.blk 0 rfl;refine⟨?_,?_,fun j=>by simp [World.frozen?,hb]⟩<;>simp [World.cell?,hb,DxE.cells]
theorem dr {w:World}{x j:Nat}{E:DxE}{B:World}{D:PH}{l:List HP}{v:Value}(h:Sat B D w (blk x E.cells.toArray tDx::l))(hv:E.cells[j]?=some v):w.cell? ⟨x,j,none⟩=some v:=by
 have hb:=h.blk 0 rfl;simp only [World.cell?,hb]
 simpa using hv
theorem ga {w:World}{x j:Nat}{E E':DxE}{B:World}{D:PH}{l:List HP}{v:Value}(h:Sat B D w (blk x E.cells.toArray tDx::l))(he:E.cells.set j v=E'.cells):Sat B D (w.setCell ⟨x,j,none⟩ v) (blk x E'.cells.toArray tDx::l):=by
 have:=h.set j v;rw [FI,he]at this;exact this
theorem TabsL.set {D:PH}{v:Value}{T:List aq}{hs:List Value}{i:Nat}{a:Value}{m:aq}(hl:hs.length=T.length)(h1:∀u∈hs,u.oneCell'=true)(h2:∀(i:Nat) (h:Value) (m:aq),hs[i]?=some h→T[i]?=some m→RowsF D h m)(ha:RowsF D a m)(hr:RdP D 1 v T.length (hs.set i a)):TabsL D v (T.set i m):=by
 refine⟨hs.set i a,by rw [FV,FV,hl],fun u hu=>?_,by rw [FV];exact hr,fun j b c hb hc=>?_⟩
 ·rcases List.mem_or_eq_of_mem_set hu with hu|rfl
  ·exact h1 u hu
  ·obtain⟨_,_,_,h3,_⟩:=ha.1;exact h3.oneV
 ·by_cases hj:i=j
  ·subst hj
   have l1:=(FO.1 hb).1;have l2:=(FO.1 hc).1;rw [FV]at l1 l2;rw [FX l1]at hb;rw [FX l2]at hc;cases hb;cases hc;exact ha
  ·rw [F8 hj]at hb hc
   exact h2 j b c hb hc
def LayAns (B:World)(D:PH)(l:List HP)(x:Nat)(E:DxE)(T:List aq)(e:Ending)(w':World):Prop:=∃(D':PH) (lv:VT),e = .returned (.tuple #[])∧PH.le D D'∧TabsL D' lv.v T∧Sat B D' w' (blk x ({ E with lv:=lv }:DxE).cells.toArray tDx::l)
theorem lF {B w:World}{D:PH}{l:List HP}{x i:Nat}{E:DxE}{T:List aq}{va:Option Addr}{vn vc:Nat}{m:aq}(ht:TabsL D E.lv.v T)(hi:i<T.length)(hn:T.length≤1000)(hr:RowsF D (.slice va vn vc) m)(h:Sat B D w (blk x E.cells.toArray tDx::l)) :
  Calls Tryz.prog 56 #[.pointer (some ⟨x,0,none⟩),.int .i64 i,.slice va vn vc] w (LayAns B D l x E (T.set i m)):=by
 obtain⟨hs,h1,h2,h3,h4⟩:=id ht;obtain⟨c0,c1,cf⟩:=bS h;obtain⟨la,lc,hlv⟩:=h3.shape;rw [hlv]at c1;obtain⟨i0,his,hz0,hz1,hz2⟩:=info_parts nR;have HI:=FH (And.intro his (And.intro hz0 (And.intro hz1 hz2)));have wQ:=FH (h3.rd h);rw [hlv]at wQ;have HS:=FH (h.own_nil tRs 1);have HE:=FH h4;have HR:=FH hr;have H1:=FH (And.intro h1 h2);obtain⟨N,hN⟩:∃N,T.length=N:=⟨_,rfl⟩;rw [hN]at wQ c1 hi hn;have HN:=FH hN;have hiN:(i:Int)<(N:Int):=by omega
 clear h ht h1 h2 h3 h4 hr hN his hz0 hz1 hz2 hlv;go_enter Tryz.func56,Tryz.ntmps56;go_upto_region 2 with (at_builtin;refine az _ rfl _ _ 43 rfl tRs i0 _ 1 24 Tryz.underlying43 HI.out.1 HI.out.2.1 HI.out.2.2.1 HI.out.2.2.2 rfl _ 0 _ rfl HS.out _ N _ rfl wQ.out H1.out.2 (by unfold maxLen;omega) (by omega) ?_;intro v7 w7 hs7 h17;rw [Nat.zero_add,List.nil_append]at hs7;obtain⟨qa,qc,rfl⟩:=hs7.own_shape;have wP:=FH hs7;clear hs7 h17 HS wQ c0 c1 cf)
 obtain⟨g,rfl⟩:∃g,qa=some ⟨g,0,none⟩:=by
  rcases (wP.out.own 0 rfl).2.2 with ⟨h1,h2⟩|⟨g,c2,cur,h1,_⟩
  ·omega
  ·cases h1;exact⟨g,rfl⟩
 obtain⟨cur,hrow,hnc,_,hcz,_⟩:=wP.out.own_row;obtain⟨u,hu⟩:∃u,cur[i]?=some u:=⟨cur[i]'(by omega),FP _⟩;have hb:=hrow.blk 0 rfl;have q0:w7.cell? ⟨g,i,none⟩=some u:=by simp only [World.cell?,hb];simpa using hu
 have qf:=frz hb;have xQ:=FH (wP.out.own_set i (.slice va vn vc) rfl);clear hrow hcz hu hb hnc;go_upto_region 3 with fail
 obtain⟨W8,hW8⟩:∃W,W=w7.setCell ⟨g,i,none⟩ (.slice va vn vc):=⟨_,rfl⟩;rw [←hW8]at xQ ⊢;clear hW8 wP q0 qf;obtain⟨D',le,hrd,hs9⟩:=xQ.out.own_give;have HF:=FH (show TabsL D' (.slice (some ⟨g,0,none⟩) N qc) (T.set i m)from TabsL.set H1.out.1 H1.out.2 (fun i a m h1 h2=>(HE.out i a m h1 h2).mono le) (HR.out.mono le) (by rw [HN.out];exact hrd));have wU:=FH le;have yi:=FH (ga hs9 (nX (E:=E) ⟨some ⟨g,0,none⟩,N,qc⟩));obtain⟨c0,c1,cf⟩:=bS hs9;clear le hrd hs9 xQ;go_wp2_with fail;refine bodyPost_ret (results_none rfl _ _ _) rfl ?_;exact⟨D',⟨some ⟨g,0,none⟩,N,qc⟩,rfl,wU.out,HF.out,yi.out⟩
def fh (p:PredT)(b:Bool)(k:Val)(r:List Val):Bool:=p.holds r&&(!b||decide (0<ai (au r) k))
theorem spnB_in (b:Bool)(k x:Val):bI (pT b k) x=(!b||decide (0<ai x k)):=by
 cases b with
 | false=>rfl
 | true =>
  show(!false && !gG _ x&&oB _ x)=(!true||decide (0<ai x k));rw [om,i6]
  show(!false && !(true&&(decide (ai x k<0)||decide (ai x k=0)&&true))&&(!false||_||_))=(!true||decide (0<ai x k));rcases Int.lt_trichotomy (ai x k) 0 with h|h|h
  ·rw [F5 h,FY (show ¬0<ai x k by omega)];rfl
  ·rw [FY (show ¬ai x k<0 by omega),F5 h,FY (show ¬0<ai x k by omega)];rfl
  ·rw [FY (show ¬ai x k<0 by omega),FY (show ¬ai x k=0 by omega),F5 h];rfl
theorem hold_eq (m:aq)(p:PredT)(b:Bool)(k:Val):cz m p (pT b k)=m.filter (fh p b k):=by
 unfold cz;refine List.filter_congr fun r _=>?_;rw [spnB_in];unfold fh;rw [Bool.and_comm]
theorem jL {B w:World}{D:PH}{l:List HP}{x t:Nat}{E:DxE}{T:List aq}{m:aq}{pe:PredE}{b:Bool}{k:Val}(ht:TabsL D E.lv.v T)(hm:T[t]?=some m)(hp:∀r∈m,0<r.length)(hn:m.length≤1000)(hpe:PredsAt D (.slice pe.la pe.ln pe.lc) pe.subs)(hpf:PredFit pe.p)(hk:k.fits)(h:Sat B D w (blk x E.cells.toArray tDx::l)) :
  Calls Tryz.prog 58 #[.pointer (some ⟨x,0,none⟩),.int .i64 t,.agg pe.cells.toArray,.bool b,k.v] w (lX B D (blk x E.cells.toArray tDx::l) (cz m pe.p (pT b k))):=by
 rw [hold_eq];obtain⟨us,g1,g2,g3,g4⟩:=id ht;have htl:=(FO.1 hm).1;obtain⟨u,hu⟩:∃u,us[t]?=some u:=⟨us[t]'(by omega),FP _⟩;have hmr:=g4 t u m hu hm;obtain⟨va,vn,vc,rfl⟩:∃a n c,u = .slice a n c:=by obtain⟨_,_,_,h3,_⟩:=hmr.1;obtain⟨a,c,e⟩:=h3.shape;exact⟨a,_,c,e⟩
 obtain rfl:vn=m.length:=cK hmr;obtain⟨W1,hW1,hs1⟩:∃W,W=(w.alloc (.cells pe.cells.toArray tPr)).alloc (.cells #[.bool k.t,.int .i64 k.n,.string k.s] tV)∧Sat B D W (blk (w.heap.size+1) #[.bool k.t,.int .i64 k.n,.string k.s] tV::blk w.heap.size pe.cells.toArray tPr::blk x E.cells.toArray tDx::l):=by
  have h1:=(h.alloc pe.cells.toArray tPr).alloc #[.bool k.t,.int .i64 k.n,.string k.s] tV;rw [World.size_alloc]at h1;exact⟨_,rfl,h1⟩
 obtain⟨c0,c1,cf⟩:=bS (hs1.front 2 rfl);obtain⟨la,lc,hlv⟩:=g3.shape;rw [hlv]at c1 g3;obtain⟨lg,log,rfl,ltc⟩:=ji (g3.rd hs1) hu htl;obtain⟨N,hN⟩:∃N,m.length=N:=⟨_,rfl⟩;have HN:=FH hN;rw [hN]at hmr hn ltc;obtain⟨i0,his,hz0,hz1,hz2⟩:=info_parts gu;have HI:=FH (And.intro his (And.intro hz0 (And.intro hz1 hz2)));have wM:=FH hW1;have wG:=FH (hs1.own_nil tW 1);have HM:=FH hmr;have HP:=FH hp;have Fs:=FH hpe;have BH:=FH hpf;have Bx:=FH hk;have htT:(t:Int)<(T.length:Int):=by omega
 generalize T.length=TN at *;clear h hW1 hs1 hmr hp hN hpe hpf hk ht hm hu g1 g2 g3 g4 hlv his hz0 hz1 hz2;go_enter Tryz.func58,Tryz.ntmps58;go_upto_region 1 with fail
 rw [←wM.out];clear wM;generalize w.heap.size+1=bk at wG ⊢;generalize w.heap.size=bp at wG ⊢;go_wp2_with fail;clear c0 c1 cf ltc
 go_loopw [11,13] (fun ov iv wr=>∃(i j:Nat) (oa:Option Addr) (oc:Nat) (hs:List Value),ov = .slice oa j oc∧iv = .int .i64 i∧i≤N∧j≤i∧j=((m.take i).filter (fh pe.p b k)).length∧RowsH D hs ((m.take i).filter (fh pe.p b k))∧Sat B D wr (aD tW 1 (.slice oa j oc) j hs::blk bk #[.bool k.t,.int .i64 k.n,.string k.s] tV::blk bp pe.cells.toArray tPr::blk x E.cells.toArray tDx::l)) (fun _ iv _=>N-(intOf iv).toNat)
 case atStart=>exact⟨0,0,none,0,[],rfl,rfl,Gp _,Gn _,rfl,RowsH.nil D,wG.out⟩
 case round =>
  obtain⟨i,j,oa,oc,hs,rfl,rfl,hi,hj,hjl,hh,hsat⟩:=hrel;have zr:=FH hjl;have HH:=FH hh;have wW:=FH hsat;clear hjl hh hsat wG;by_cases hlt:i<N
  ·have hii:(i:Int)<(N:Int):=by omega
   obtain⟨r,hr⟩:∃r,m[i]?=some r:=⟨m[i]'(by rw [HN.out];exact hlt),FP _⟩;have hpos:=HP.out r (FQ hr);obtain⟨g,og,rg,rog,rc,rfl,hrow,hc⟩:=gm HM.out hr hpos wW.out;have yj:=FH hc;have c0:=(hc _ _ wW.out.drew).1;have hpi:(0:Int)<(r.length:Int):=by omega
   have h0:r[0]?=some (au r):=by cases r with|nil=>cases hpos|cons a t=>rfl
   have zu:=FH (show(au r).fits from(hrow.2 _ (FQ h0)).2);have HL:=FH (dh (aj (wW.out.drew.blk 2 rfl)));obtain⟨hb,hhb⟩:∃q,pe.p.holds r=q:=⟨_,rfl⟩;have xJ:=FH (sX pe.p pe wr.drew _ r rfl BH.out (fun v hv=>(hrow.2 v hv).2) (Fs.out.rd wW.out.drew) (RdP.rd hrow.1 wW.out.drew));rw [hhb]at xJ;have ym:=FH (show(m.take (i+1)).filter (fh pe.p b k)=(m.take i).filter (fh pe.p b k)++(if (hb&&(!b||decide (0<ai (au r) k)))then [r]else []) by
    rw [F3,hr,Option.toList_some,List.filter_append,List.filter_cons,List.filter_nil];unfold fh;rw [hhb])
   have xT:=FH hrow;clear hc hr hrow h0 hhb;go_upto_region 6 with fail
   refine aH [rq 0 5,rq 1 5,rq 2 5,rq 3 5,rq 4 5,(5,true,0),rq 6 999] ?_;iterate 5 (refine ae rfl rfl fun K hK=>?_;(first|((refine bF _ _ rfl _ _ rfl _ HL.out ?_);go_simp)|go_simp);apply hK;clear hK K)
   refine af rfl ?_;refine al rfl fun K hK=>?_;go_simp;refine xJ.out.mono ?_;rintro e3 w3 ⟨rfl,hk3⟩;have wI:=FH (wW.out.drew.kept hk3);clear hk3 xJ wW HL c0;refine hK _ _ ?_;clear hK K;refine wpList_nil ?_;apply And.intro
   ·go_simp
   refine ae rfl rfl fun K hK=>?_;(first|((refine bF _ _ rfl _ _ rfl _ HL.out ?_);go_simp)|go_simp);apply hK;clear hK K;refine ag ?_;go_upto_region 7 with fail
   cases hb with
   | false =>
    have hf:(false&&(!b||decide (0<ai (au r) k)))=false:=rfl;refine aH [rq 0 12,rq 1 12,rq 2 12,rq 3 12,rq 4 12,rq 5 12,rq 6 12,rq 7 12,rq 8 12,rq 9 12,rq 10 12,rq 11 12,(12,true,0),rq 13 999,rq 14 999,rq 15 999] ?_;(iterate 12 (first|(refine ax rfl rfl ?_;simp only [Act.put,FI,FJ,FK,FL,FM,FN])|((first|refine ae rfl rfl (fun K hK=>?_)|refine ar rfl rfl fun K hK=>?_);go_simp;apply hK;clear hK K)));refine af rfl ?_;refine bU rfl ?_;simp only [Act.put,FI,FJ,FK];refine wpList_nil ?_;apply And.intro
    ·go_simp
    (iterate 3 (first|(refine ax rfl rfl ?_;simp only [Act.put,FI,FJ,FK,FL,FM,FN])|((first|refine ae rfl rfl (fun K hK=>?_)|refine ar rfl rfl fun K hK=>?_);go_simp;apply hK;clear hK K)));refine ag ?_
    have wO:=FH wI.out.drew;have zQ:=FH (show(m.take (i+1)).filter (fh pe.p b k)=(m.take i).filter (fh pe.p b k)from ym.out.trans (by rw [hf];simp));clear hf;go_wp2_with fail;go_roundw
    case rel=>exact⟨i+1,j,oa,oc,hs,rfl,by go_num,by omega,by omega,by rw [zQ.out];exact zr.out,by rw [zQ.out];exact HH.out,wO.out⟩
    case measure=>simp [intOf];omega
   | true =>
    cases b with
    | false =>
     have hf:(true&&(!false||decide (0<ai (au r) k)))=true:=rfl;refine aH [rq 0 12,rq 1 12,rq 2 12,rq 3 12,rq 4 12,rq 5 12,rq 6 12,rq 7 12,rq 8 12,rq 9 12,rq 10 12,rq 11 12,(12,true,0),rq 13 999,rq 14 999,rq 15 999] ?_;(iterate 12 (first|(refine ax rfl rfl ?_;simp only [Act.put,FI,FJ,FK,FL,FM,FN])|((first|refine ae rfl rfl (fun K hK=>?_)|refine ar rfl rfl fun K hK=>?_);go_simp;apply hK;clear hK K)));refine af rfl ?_;refine bU rfl ?_;simp only [Act.put,FI,FJ,FK];refine wpList_nil ?_;apply And.intro
     ·go_simp
     (iterate 3 (first|(refine ax rfl rfl ?_;simp only [Act.put,FI,FJ,FK,FL,FM,FN])|((first|refine ae rfl rfl (fun K hK=>?_)|refine ar rfl rfl fun K hK=>?_);go_simp;apply hK;clear hK K)));refine ag ?_
     have wO:=FH wI.out.drew;have zQ:=FH (show(m.take (i+1)).filter (fh pe.p false k)=(m.take i).filter (fh pe.p false k) ++ [r]from ym.out.trans (by rw [hf];rfl));have c0:=(yj.out w3.drew _ wO.out).1;have xa:=FH ((wO.out.alloc #[.slice (some ⟨rg,rog,none⟩) r.length rc] tW).front 1 rfl);have wQ:=FH (bC (size:=1) (n:=1) (ak w3.drew (.cells #[.slice (some ⟨rg,rog,none⟩) r.length rc] tW)) rfl (by unfold maxLen;omega));clear hf;go_wp2_with (at_builtin;refine az _ rfl _ _ tRs rfl tW i0 _ 1 24 Tryz.underlying55 HI.out.1 HI.out.2.1 HI.out.2.2.1 HI.out.2.2.2 rfl _ j _ rfl xa.out _ 1 _ rfl wQ.out (by intro u hu;simp at hu;subst hu;rfl) (by unfold maxLen;omega) (by omega) ?_;intro v7 w7 hs7 h17;obtain⟨qa,qc,rfl⟩:=hs7.own_shape;have wP:=FH (hs7.swap.drop);clear hs7 h17 xa wQ);go_roundw
     case rel=>exact⟨i+1,j+1,qa,qc,hs ++ [.slice (some ⟨rg,rog,none⟩) r.length rc],rfl,by go_num,by omega,by omega,by rw [zQ.out,FR,←zr.out];rfl,by rw [zQ.out];exact HH.out.snoc xT.out,wP.out⟩
     case measure=>simp [intOf];omega
    | true =>
     obtain⟨c0,c1,c2,c3⟩:=yj.out _ _ wI.out.drew;obtain⟨k0,k1,k2,kf⟩:=aQ (wI.out.drew.blk 1 rfl);obtain⟨c,hcv⟩:∃c,ai (au r) k=c:=⟨_,rfl⟩;have yA:=FH (lE (au r) k zu.out Bx.out w3.drew);rw [hcv]at yA ym;clear hcv;refine aH [rq 0 12,rq 1 12,rq 2 12,rq 3 12,rq 4 12,rq 5 12,rq 6 12,rq 7 12,rq 8 12,rq 9 12,rq 10 12,rq 11 12,(12,true,0),rq 13 999,rq 14 999,rq 15 999] ?_;(iterate 12 (first|(refine ax rfl rfl ?_;simp only [Act.put,FI,FJ,FK,FL,FM,FN])|((first|refine ae rfl rfl (fun K hK=>?_)|refine ar rfl rfl fun K hK=>?_);go_simp;apply hK;clear hK K)));refine af rfl ?_;refine al rfl fun K hK=>?_;go_simp;refine yA.out.mono ?_;rintro e4 w4 ⟨rfl,hk4⟩;have wO:=FH (wI.out.drew.kept hk4);clear hk4 yA wI c0 c1 c2 c3 k0 k1 k2 kf;refine hK _ _ ?_;clear hK K;refine wpList_nil ?_;apply And.intro
     ·go_simp
     (iterate 3 (first|(refine ax rfl rfl ?_;simp only [Act.put,FI,FJ,FK,FL,FM,FN])|((first|refine ae rfl rfl (fun K hK=>?_)|refine ar rfl rfl fun K hK=>?_);go_simp;apply hK;clear hK K)));refine ag ?_
     by_cases hcp:0<c
     ·have hf:(true&&(!true||decide (0<c)))=true:=by rw [F5 hcp];rfl
      have zQ:=FH (show(m.take (i+1)).filter (fh pe.p true k)=(m.take i).filter (fh pe.p true k) ++ [r]from ym.out.trans (by rw [hf];rfl));have c0:=(yj.out w4 _ wO.out).1;have xa:=FH ((wO.out.alloc #[.slice (some ⟨rg,rog,none⟩) r.length rc] tW).front 1 rfl);have wQ:=FH (bC (size:=1) (n:=1) (ak w4 (.cells #[.slice (some ⟨rg,rog,none⟩) r.length rc] tW)) rfl (by unfold maxLen;omega));clear hf;go_wp2_with (at_builtin;refine az _ rfl _ _ tRs rfl tW i0 _ 1 24 Tryz.underlying55 HI.out.1 HI.out.2.1 HI.out.2.2.1 HI.out.2.2.2 rfl _ j _ rfl xa.out _ 1 _ rfl wQ.out (by intro u hu;simp at hu;subst hu;rfl) (by unfold maxLen;omega) (by omega) ?_;intro v7 w7 hs7 h17;obtain⟨qa,qc,rfl⟩:=hs7.own_shape;have wP:=FH (hs7.swap.drop);clear hs7 h17 xa wQ);go_roundw
      case rel=>exact⟨i+1,j+1,qa,qc,hs ++ [.slice (some ⟨rg,rog,none⟩) r.length rc],rfl,by go_num,by omega,by omega,by rw [zQ.out,FR,←zr.out];rfl,by rw [zQ.out];exact HH.out.snoc xT.out,wP.out⟩
      case measure=>simp [intOf];omega
     ·have hf:(true&&(!true||decide (0<c)))=false:=by rw [FY hcp];rfl
      have zQ:=FH (show(m.take (i+1)).filter (fh pe.p true k)=(m.take i).filter (fh pe.p true k)from ym.out.trans (by rw [hf];simp));clear hf;go_wp2_with fail;go_roundw
      case rel=>exact⟨i+1,j,oa,oc,hs,rfl,by go_num,by omega,by omega,by rw [zQ.out];exact zr.out,by rw [zQ.out];exact HH.out,wO.out⟩
      case measure=>simp [intOf];omega
  ·obtain rfl:i=N:=by omega
   have hii:¬((i:Int)<(i:Int)):=by omega
   have hall:m.take i=m:=FS (Nat.le_of_eq HN.out);rw [hall]at HH zr;obtain⟨D',le,hrf,hs9⟩:=HH.out.give zr.out wW.out;have HF:=FH (show lX B D (blk x E.cells.toArray tDx::l) (m.filter (fh pe.p b k)) (.returned (.slice oa j oc)) wr from⟨oa,j,oc,D',rfl,le,hrf,hs9.drop.drop⟩);clear hall le hrf hs9 wW;go_wp2_with fail;go_ret;exact HF.out
section
variable {X : TxM} {i : Nat} {cc : List Bool} {m : aq}
theorem put_X (hm:X.tabs[i]?=some m)(hI:TabI cc m){r:List Val}(hr:aX cc r=true):Ext X (X.put (i:Int) r):=by
 have e1:X.tab (i:Int)=m:=cE hm;refine⟨[⟨(i:Int),au r,(aP m (au r)).getD []⟩],?_,?_⟩
 ·show X.log ++ [_]=_;rw [e1]
 ·show eU (X.tabs.set (i:Int).toNat (cw (X.tab i) r)) _=_
  rw [e1,F6];exact mL hm hI hr
theorem out_X (hm:X.tabs[i]?=some m)(hI:TabI cc m){k:Val}(hk:am k=true):Ext X (X.out (i:Int) k):=by
 have e1:X.tab (i:Int)=m:=cE hm;refine⟨[⟨(i:Int),k,(aP m k).getD []⟩],?_,?_⟩
 ·show X.log ++ [_]=_;rw [e1]
 ·show eU (X.tabs.set (i:Int).toNat (cR (X.tab i) k)) _=_
  rw [e1,F6];exact mX hm hI hk
end
theorem vh {i:Nat}{cc:List Bool}:∀(fr:aq) (X:TxM) (m:aq),X.tabs[i]?=some m→TabI cc m→(∀q∈fr,aX cc q=true∧bG q) →
  Ext X (fr.foldl (fun y r=>y.put (i:Int) r) X)∧SameT X (fr.foldl (fun y r=>y.put (i:Int) r) X) fr.length∧(fr.foldl (fun y r=>y.put (i:Int) r) X).tabs=X.tabs.set i (fr.foldl cw m)
 | [],X,m,hm,_,_=>⟨Ext.refl X,⟨rfl,rfl,rfl,rfl⟩,by
  show X.tabs=X.tabs.set i m;refine List.ext_getElem? fun j=>?_;by_cases hj:i=j
  ·subst hj;rw [FX (FO.1 hm).1,hm]
  ·rw [F8 hj]⟩
 | r::fr,X,m,hm,hI,hf=>by
  obtain⟨f1,f2⟩:=hf r (Gc ..);have hlt:=(FO.1 hm).1;have e1:X.tab (i:Int)=m:=cE hm;have ht:(X.put (i:Int) r).tabs=X.tabs.set i (cw m r):=by
   show X.tabs.set (i:Int).toNat (cw (X.tab i) r)=_;rw [F6,e1]
  have hm2:(X.put (i:Int) r).tabs[i]?=some (cw m r):=by rw [ht,FX hlt]
  obtain⟨g1,g2,g3⟩:=vh fr (X.put (i:Int) r) (cw m r) hm2 (hI.put f1 f2) (fun q hq=>hf q (F4 _ hq));refine⟨(put_X hm hI f1).trans g1,⟨g2.cols,g2.saves,g2.curs,?_⟩,?_⟩
  ·rw [List.foldl_cons,g2.len]
   show(X.log ++ [_]).length+fr.length=_;simp only [FR,List.length_cons,List.length_nil];omega
  ·rw [List.foldl_cons,g3,ht,List.set_set]
   rfl
theorem DxOk.ext {D:PH}{X Y:TxM}{E:DxE}{lv:VT}(h:DxOk D X E)(he:Ext X Y){k:Nat}(hs:SameT X Y k)(hr:TabsL D lv.v Y.tabs):DxOk D Y { E with lv:=lv,ch:=(Y.log.length:Int) } :=
 ⟨h.lens,by rw [hs.cols];exact h.tables,hr,h.ns.trans hs.saves.symm,fun n s v h1 h2 h3=>by
  rw [hs.saves]at h1;obtain⟨a,b,c⟩:=h.saved n s v h1 h2 h3;exact⟨a,by rw [hs.len];omega,by rw [he.at b];exact c⟩,rfl,by rw [hs.curs];exact h.cs,by rw [hs.cols];exact h.few,by rw [hs.saves];exact h.zero⟩
theorem upd_21 {cc:List Bool}{r:List Val}{sets:List SetM}(hf:aX cc r=true)(hs:cG cc sets=true):(cM cc r sets).2=0∨cM cc r sets=([],21):=by
 cases hu:fI r sets r with
 | none=>exact .inr (oF hf hs hu)
 | some o=>exact .inl (by rw [pB hf hs hu])
def ChgAns (B:World)(D:PH)(l:List HP)(x:Nat)(X:TxM)(i:Nat)(ls:aq)(sets:List SetM)(cc:List Bool)(e:Ending)(w':World):Prop :=
 ((cB cc sets ls []).2=21∧e = .returned (.bool false)∧∃D',PH.le D D'∧gt B w' D' x X l)∨((cB cc sets ls []).2=0∧e = .returned (.bool true)∧∃D',PH.le D D'∧gt B w' D' x (X.all (i:Int) ls sets).1 l)
theorem l5 {B w:World}{D:PH}{l:List HP}{x i n c:Nat}{X:TxM}{va sv:Value}{ls:aq}{sets:List SetM}{cc:List Bool}(hI:TxI n c X)(hcc:X.cols[i]?=some cc)(hla:RowsF D va ls)(hls:∀m,X.tabs[i]?=some m→∀q∈ls,q∈m)(hst:cG cc sets=true)(hsv:SetsF D sv sets)(hlen:ls.length≤200)(hlog:X.log.length+200≤1000000)(h:gt B w D x X l) :
  Calls Tryz.prog 59 #[.pointer (some ⟨x,0,none⟩),.int .i64 i,va,sv] w (ChgAns B D l x X i ls sets cc):=by
 obtain⟨E,hE,hs⟩:=h;have hil:=(FO.1 hcc).1;obtain⟨cc',m,hcc',hm,hT,h200,hmn,_⟩:=hI.tab hil;rw [hcc]at hcc';cases hcc';have hw:=hI.log.well.1;obtain⟨us,g1,g2,g3,g4⟩:=id hE.rows;have htl:=(FO.1 hm).1;obtain⟨u,hu⟩:∃u,us[i]?=some u:=⟨us[i]'(by omega),FP _⟩;have hmr:=g4 i u m hu hm;obtain⟨ra,rn,rc,rfl⟩:∃a n c,u = .slice a n c:=by obtain⟨_,_,_,h3,_⟩:=hmr.1;obtain⟨a,c,e⟩:=h3.shape;exact⟨a,_,c,e⟩
 obtain⟨vs,t1,t2,t3,t4⟩:=id hE.tables;obtain⟨cv,hcv⟩:∃cv,vs[i]?=some cv:=⟨vs[i]'(by omega),FP _⟩;have hcol:=t4 i cv cc hcv hcc;obtain⟨ca,ccap,rfl⟩:=hcol.shape;obtain⟨c0,c1,cf⟩:=bS hs;obtain⟨la,lc,hlv⟩:=g3.shape;obtain⟨ta,tc,htv⟩:=t3.shape;rw [hlv]at c1 g3;rw [htv]at t3;obtain⟨lg,log,rfl,ltc⟩:=ji (g3.rd hs) hu htl;obtain⟨tg,tog,rfl,_⟩:=ji (t3.rd hs) hcv hil;have Bb:=FH (show ∀W (D':PH),PH.le D D'→Sat B D' W (blk x E.cells.toArray tDx::l)→W.cell? ⟨x,0,none⟩=some (.slice (some ⟨tg,tog,none⟩) X.cols.length tc)∧W.cell? ⟨tg,tog+i,none⟩=some (.slice ca cc.length ccap)from fun W D' le hs'=>by
  obtain⟨d0,_,_⟩:=bS hs';rw [htv]at d0;obtain⟨g,og,hg,hc⟩:=ji ((t3.mono le).rd hs') hcv hil;cases hg;exact⟨d0,hc⟩)
 obtain⟨aa,ac,rfl⟩:∃a c,va = .slice a ls.length c:=by obtain⟨_,_,_,h3,_⟩:=hla.1;obtain⟨a,c,e⟩:=h3.shape;exact⟨a,c,e⟩
 obtain⟨N,hN⟩:∃N,ls.length=N:=⟨_,rfl⟩;have HN:=FH hN;rw [hN]at hla hlen ⊢;have Ft:=FH hla;have A9:=FH (hls m hm);have xm:=FH hst;have xW:=FH hsv;have HT:=FH hT;have HE:=FH hE;have HM:=FH hm;have xw:=FH hcol;have yl:=FH h200;have Ek:=FH hlog;have yj:=FH hcc;have HS:=FH hs;have EO:=FH hmr;have Bc:=FH htl;have hiT:(i:Int)<(X.tabs.length:Int):=by omega
 have hiC:(i:Int)<(X.cols.length:Int):=by omega
 have Bd:=FH (show X.tabs.length≤1000 by rw [hw.1];have:=hE.few;omega);clear hI hla hls hst hsv hlog hE hs hcc hm hT h200 hmn hw g1 g2 g4 htl hu hmr t1 t2 t4 hcv hcol hN hil hlv htv g3 t3;obtain⟨i0,his,hz0,hz1,hz2⟩:=info_parts gu;clear his hz0 hz1 hz2 i0;go_enter Tryz.func59,Tryz.ntmps59;go_wp2_with fail;clear c0 c1 cf ltc
 go_loopw [9,10] (fun rv iv wr=>∃(j:Nat) (fr m':aq) (qa:Option Addr) (qc:Nat) (D':PH),rv = .slice qa m'.length qc∧iv = .int .i64 j∧j≤N∧PH.le D D'∧cB cc sets (ls.take j) []=(fr,0)∧PutsI X (fr.foldl (fun y r=>y.put (i:Int) r) X) i cc m m' j∧(∀q∈fr,aX cc q=true∧bG q)∧fr.foldl cw m=m'∧RowsF D' (.slice qa m'.length qc) m'∧Sat B D' wr (blk x E.cells.toArray tDx::l)) (fun _ iv _=>N-(intOf iv).toNat)
 case atStart =>
  refine⟨0,[],m,ra,rc,D,?_,rfl,Gp _,PH.le.refl _,rfl,⟨HM.out,HT.out,rfl,fun _=>rfl,rfl,rfl⟩,(fun q hq=>by cases hq),rfl,?_,HS.out⟩
  ·rw [←cK EO.out]
  ·have:=EO.out
   rw [cK this]at this;exact this
 case round =>
  obtain⟨j,fr,m',qa,qc,D',rfl,rfl,hj,hle,hup,hpi,hff,hfo,hrf,hsat⟩:=hrel;have wU:=FH hle;have AQ:=FH hup;have A4:=FH hpi;have yF:=FH hff;have EP:=FH hfo;have yN:=FH hrf;have wW:=FH hsat;clear hle hup hpi hff hfo hrf hsat HS;by_cases hlt:j<N
  ·have hji:(j:Int)<(N:Int):=by omega
   obtain⟨q,hq⟩:∃q,ls[j]?=some q:=⟨ls[j]'(by rw [HN.out];exact hlt),FP _⟩;have hqm:=A9.out q (FQ hq);have hqf:=HT.out.fits q hqm;have hpos:0<q.length:=by obtain⟨k,h0,_⟩:=cO hqf;exact(FO.1 h0).1
   obtain⟨g,og,rg,rog,rcc,rfl,hrow,hc⟩:=gm (Ft.out.mono wU.out) hq hpos wW.out;have c2:=(hc _ _ wW.out.drew).1;obtain⟨c0,c1⟩:=Bb.out _ _ wU.out wW.out.drew;have cf:=(bS wW.out.drew).2.2;have ym:=FH (show ls.take (j+1)=ls.take j ++ [q] by rw [F3,hq];rfl);have EQ:=FH (rupd_ok hqf xm.out (xw.out.mono wU.out) hrow (xW.out.mono wU.out) wW.out.drew);have Fu:=FH hqf;have Fv:=FH hrow.2;have Fw:=FH (show(aP m (au q)).isSome=true from eD.2 ⟨q,hqm,rfl⟩);have H21:=FH (upd_21 hqf xm.out);clear hq hqm hqf hrow hc;go_upto_region 5 with fail
   refine aH [rq 0 13,rq 1 13,rq 2 13,rq 3 13,rq 4 13,rq 5 13,rq 6 13,rq 7 13,rq 8 13,rq 9 13,rq 10 13,rq 11 13,rq 12 13,(13,true,0),rq 14 999,rq 15 999,rq 16 999,rq 17 999,rq 18 999] ?_;iterate 13 (refine ae rfl rfl fun K hK=>?_;go_simp;apply hK;clear hK K)
   refine af rfl ?_;refine al rfl fun K hK=>?_;go_simp;refine EQ.out.mono ?_;rintro e3 w3 ⟨v',rfl,hfit,hs3⟩;have Df:=FH hfit;have wI:=FH hs3;clear hfit hs3 EQ wW c0 c1 c2 cf;refine hK _ _ ?_;clear hK K;refine wpList_nil ?_;apply And.intro
   ·go_simp
   iterate 5 (refine ae rfl rfl fun K hK=>?_;go_simp;apply hK;clear hK K)
   refine ag ?_;rcases H21.out with h0|h21
   ·rw [h0]
    obtain⟨D2,le2,hrw,hs4⟩:=wI.out.own_give;have h9:=kw Fu.out Fv.out xW.out.2 h0;have HO:=FH h9;have Bl:=FH (show cB cc sets (ls.take (j+1)) []=(fr ++ [(cM cc q sets).1],0) by rw [ym.out,eW q AQ.out,if_pos h0]);obtain⟨o,ho⟩:∃o,(cM cc q sets).1=o:=⟨_,rfl⟩;rw [ho]at hrw HO Bl Df;have Bn:=FH (A4.out.put HO.out.1 HO.out.2.1 (by rw [HO.out.2.2];exact Fw.out));have hso:m'.length≤1000:=by rw [A4.out.len];have:=yl.out;omega
    have BF:=FH (sG (yN.out.mono le2) (show RowF D2 v' o from⟨hrw,Df.out⟩) (fun r hr=>by obtain⟨k,h0,_⟩:=cO (A4.out.well.fits r hr);exact(FO.1 h0).1) (by obtain⟨k,h0,_⟩:=cO HO.out.1;exact(FO.1 h0).1) A4.out.well.sorted hso hs4);have xe:=FH (wU.out.trans le2);clear le2 hrw hs4 h9 h0 ho wI;go_wp2_with (go_at_call 57;refine BF.out.mono ?_;rintro e5 w5 ⟨a5,n5,c5,D5,rfl,hle5,hrf5,hs5⟩;obtain rfl:=cK hrf5;have xA:=FH (xe.out.trans hle5);have El:=FH hrf5;have wT:=FH hs5;clear hle5 hrf5 hs5 BF);go_roundw
    case rel =>
     refine⟨j+1,fr ++ [o],cw m' o,a5,c5,D5,rfl,by go_num,by omega,xA.out,Bl.out,?_,fun r hr=>?_,?_,El.out,wT.out⟩
     ·rw [List.foldl_append];exact Bn.out
     ·rcases F2.1 hr with hr|hr
      ·exact yF.out r hr
      ·obtain rfl:=List.mem_singleton.1 hr;exact⟨HO.out.1,HO.out.2.1⟩
     ·rw [List.foldl_append,EP.out];rfl
    case measure=>simp [intOf];omega
   ·rw [h21]at wI ⊢
    have Fx:=FH (show cB cc sets ls []=([],21)from it (j+1) (by decide) (by rw [ym.out,eW q AQ.out,h21];rfl));clear h21;go_wp2_with fail;go_ret;exact .inl ⟨by rw [Fx.out],rfl,D',wU.out,E,HE.out.mono wU.out,wI.out.drop⟩
  ·obtain rfl:j=N:=by omega
   have hji:¬((j:Int)<(j:Int)):=by omega
   have hall:ls.take j=ls:=FS (Nat.le_of_eq HN.out);rw [hall]at AQ;clear hall;have hfl:fr.length=j:=by have:=jr AQ.out;simp at this;rw [this,HN.out]
   obtain⟨p1,p2,p3⟩:=vh fr X m HM.out HT.out yF.out;have Fy:=FH p1;have Ci:=FH p2;have BW:=FH (p3.trans (by rw [EP.out]));have Dx:=FH hfl;have A0:=FH (lF (HE.out.rows.mono wU.out) Bc.out Bd.out yN.out wW.out);clear p1 p2 p3 hfl wW;go_upto_region 10 with (go_at_call 56;refine A0.out.mono ?_;rintro e5 w5 ⟨D5,lv,rfl,hle5,htl5,hs5⟩;have xA:=FH (wU.out.trans hle5);have Ac:=FH htl5;have wT:=FH hs5;clear hle5 htl5 hs5 A0)
   have hch:=dr wT.out (mP (E:={ E with lv:=lv }) HE.out.lens);have cf:=(bS wT.out).2.2;rw [show({ E with lv:=lv }:DxE).ch=(X.log.length:Int)from HE.out.ch]at hch;have hw1:IntKind.i64.wrap ((X.log.length:Int)+(j:Int))=((X.log.length+j:Nat):Int):=by rw [Gr _ (by have:=Ek.out;omega)];omega
   have wK:=FH (ga wT.out (gl (E:={ E with lv:=lv }) HE.out.lens ((X.log.length+j:Nat):Int)));have xI:=FH (show(X.all (i:Int) ls sets).1=fr.foldl (fun y r=>y.put (i:Int) r) X by unfold TxM.all;rw [fF yj.out,AQ.out];rfl);have yg:=FH (show((fr.foldl (fun y r=>y.put (i:Int) r) X).log.length:Int)=((X.log.length+j:Nat):Int) by rw [Ci.out.len,Dx.out]);go_wp2_with fail;go_ret;refine .inr ⟨by rw [AQ.out],rfl,D5,xA.out,?_⟩;rw [xI.out];refine⟨_,(HE.out.mono xA.out).ext Fy.out Ci.out (by rw [BW.out];exact Ac.out),?_⟩;rw [yg.out];exact wK.out
def DxAns (B:World)(D:PH)(x:Nat)(l:List HP)(p:TxM×AnsM)(e:Ending)(w':World):Prop:=∃(ra:Option Addr) (rn rc:Nat) (D':PH),e = .returned (.agg #[.int .i64 p.2.e,.slice ra rn rc,.int .i64 p.2.n])∧PH.le D D'∧RowsF D' (.slice ra rn rc) p.2.rows∧gt B w' D' x p.1 l
theorem DxAns.plain {B w:World}{D D':PH}{x:Nat}{l:List HP}{Y:TxM}{a n:Int}(le:PH.le D D')(h:gt B w D' x Y l):DxAns B D x l (Y,⟨a,[],n⟩) (.returned (.agg #[.int .i64 a,.slice none 0 0,.int .i64 n])) w:=⟨none,0,0,D',rfl,le,RowsF.nil _,h⟩
theorem fR {B w:World}{D:PH}{x i:Nat}{X:TxM}{E:DxE}{l:List HP}{m:aq}(hE:DxOk D X E)(hm:X.tabs[i]?=some m)(h:Sat B D w (blk x E.cells.toArray tDx::l)) :
  ∃lg log lc ra rc,E.lv.v = .slice (some ⟨lg,log,none⟩) X.tabs.length lc∧RowsF D (.slice ra m.length rc) m∧∀W L,Sat B D W L→W.cell? ⟨lg,log+i,none⟩=some (.slice ra m.length rc):=by
 obtain⟨us,g1,g2,g3,g4⟩:=id hE.rows;have htl:=(FO.1 hm).1;obtain⟨u,hu⟩:∃u,us[i]?=some u:=⟨us[i]'(by omega),FP _⟩;have hmr:=g4 i u m hu hm;obtain⟨ra,rn,rc,rfl⟩:∃a n c,u = .slice a n c:=by obtain⟨_,_,_,h3,_⟩:=hmr.1;obtain⟨a,c,e⟩:=h3.shape;exact⟨a,_,c,e⟩
 obtain rfl:=cK hmr;obtain⟨la,lc,hlv⟩:=g3.shape;rw [hlv]at g3;obtain⟨lg,log,rfl,_⟩:=ji (g3.rd h) hu htl;refine⟨lg,log,lc,ra,rc,hlv,hmr,fun W L hs=>?_⟩;obtain⟨g,og,hg,hc⟩:=ji (g3.rd hs) hu htl;cases hg;exact hc
theorem eT {D:PH}{a:Option Addr}{n c:Nat}{r:List Val}(h:wl D (.slice a n c) r):n=r.length:=by obtain⟨_,_,_,_,e,_⟩:=h;exact(Value.slice.inj e).2.1
theorem nG {B w:World}{D:PH}{l:List HP}{x i n c:Nat}{X:TxM}{k:Val}(hI:TxI n c X)(hi:i<X.cols.length)(hk:am k=true)(hlog:X.log.length+200≤1000000)(h:gt B w D x X l) :
  Calls Tryz.prog 53 #[.pointer (some ⟨x,0,none⟩),.int .i64 i,k.v] w (DxAns B D x l (X.drop (i:Int) k)):=by
 obtain⟨E,hE,hs⟩:=h;obtain⟨cc,m,hcc,hm,hT,h200,hmn,_⟩:=hI.tab hi;have htl:=(FO.1 hm).1;obtain⟨W1,hW1,hs1⟩:∃W,W=(w.alloc (.cells #[.bool k.t,.int .i64 k.n,.string k.s] tV)).alloc (.cells aZ aL)∧Sat B D W (blk x E.cells.toArray tDx::blk (w.heap.size+1) aZ aL::blk w.heap.size #[.bool k.t,.int .i64 k.n,.string k.s] tV::l):=by
  have h1:=(hs.alloc #[.bool k.t,.int .i64 k.n,.string k.s] tV).alloc aZ aL;rw [World.size_alloc]at h1;exact⟨_,rfl,h1.front 2 rfl⟩
 obtain⟨lg,log,lc,ra,rc,hlv,hrf,hcell⟩:=fR hE hm hs1;have hpos:∀r∈m,0<r.length:=fun r hr=>by obtain⟨k,h0,_⟩:=cO (hT.fits r hr);exact(FO.1 h0).1
 have Az:=FH (show X.drop (i:Int) k=match aP m k with|none=>(X,bJ 61)|some _=>(X.out (i:Int) k,fL 1) by unfold TxM.drop;rw [cE hm];cases aP m k<;>rfl);have wM:=FH hW1;have wG:=FH hs1;have HE:=FH hE;have HT:=FH hT;have HM:=FH hm;have yN:=FH hrf;have yy:=FH hcell;have yW:=FH hlv;have xZ:=FH hpos;have zu:=FH hk;have xM:=FH hlog;have Bc:=FH htl;have Bd:=FH (show X.tabs.length≤1000 by rw [hI.log.well.1.1];have:=hE.few;omega);have h2:m.length≤1000:=by omega
 have zp:=FH h2;have hiT:(i:Int)<(X.tabs.length:Int):=by omega
 obtain⟨TN,hTN⟩:∃n,X.tabs.length=n:=⟨_,rfl⟩;rw [hTN]at hiT yW;clear hTN;clear hs hW1 hs1 hE hT hm hrf hcell hlv hpos hk hlog htl hI hcc h200 hmn h2 hi;go_enter Tryz.func53,Tryz.ntmps53;go_upto_region 1 with fail
 rw [←wM.out];clear wM;generalize w.heap.size+1=br at wG ⊢;generalize w.heap.size=bk at wG ⊢;obtain⟨c0,c1,cf⟩:=bS wG.out.drew;rw [yW.out]at c1;have ltc:=yy.out _ _ wG.out.drew;obtain⟨k0,k1,k2,kf⟩:=aQ (wG.out.drew.blk 2 rfl);have zB:=FH (jG (k:=k) yN.out xZ.out wG.out.drew);refine aH [rq 0 9,rq 1 9,rq 2 9,rq 3 9,rq 4 9,rq 5 9,rq 6 9,rq 7 9,rq 8 9,(9,true,0),rq 10 999] ?_;iterate 9 (refine ae rfl rfl fun K hK=>?_;go_simp;apply hK;clear hK K)
 refine af rfl ?_;refine al rfl fun K hK=>?_;go_simp;refine zB.out.mono ?_;rintro e3 w3 ⟨fa,fn,fc,rfl,hfr,hs3⟩;have ya:=FH hfr;have wI:=FH hs3;clear hfr hs3 zB wG c0 c1 cf ltc k0 k1 k2 kf;refine hK _ _ ?_;clear hK K;refine wpList_nil ?_;apply And.intro
 ·go_simp
 refine ae rfl rfl fun K hK=>?_;go_simp;apply hK;clear hK K;refine ag ?_;cases hf:aP m k with
 | none =>
  rw [hf]at ya Az;have hfn:=eT ya.out.1;simp at hfn;subst hfn;have wH:=FH (wI.out.front 1 rfl);clear hf;go_wp2_with (refine ah rfl _ _ _ rfl aL br rfl [.int .i64 61,.slice none 0 0,.int .i64 0] rfl _ wH.out (by kernel_rfl) rfl (by intro u hu;simp at hu;rcases hu with rfl|rfl|rfl<;>rfl) ?_;intro w5 hs5;have wT:=FH hs5;clear hs5 wH wI);refine bodyPost_ret (av rfl _ _ rfl (aJ rfl (aj (wT.out.blk 0 rfl)))) rfl ?_;rw [Az.out];exact DxAns.plain (PH.le.refl _) ⟨E,HE.out,wT.out.drop.swap.drop⟩
 | some r =>
  rw [hf]at ya Az;have hfn:=eT ya.out.1;rw [Option.getD_some]at hfn;have hpr:=xZ.out r (cV hf).1;have hf0:((fn:Int) == 0)=false:=by simp;omega
  have hY:=HT.out.del k;clear hf hfn hpr;go_upto_region 4 with fail
  obtain⟨c0,c1,cf⟩:=bS wI.out.drew;rw [yW.out]at c1;have ltc:=yy.out _ _ wI.out.drew;obtain⟨k0,k1,k2,kf⟩:=aQ (wI.out.drew.blk 2 rfl);have Dg:=FH (kM (k:=k) yN.out xZ.out HT.out.keys zu.out zp.out wI.out.drew);have Dh:=FH (out_X HM.out HT.out zu.out);have xN:=FH (show(X.out (i:Int) k).tabs=X.tabs.set i (cR m k) by show X.tabs.set (i:Int).toNat (cR (X.tab i) k)=_;rw [F6,cE HM.out]);clear hY;refine aH [rq 0 12,rq 1 12,rq 2 11,rq 3 11,rq 4 11,rq 5 11,rq 6 11,rq 7 11,rq 8 11,rq 9 11,rq 10 11,(11,true,0),(12,true,0)] ?_;iterate 11 (refine ae rfl rfl fun K hK=>?_;go_simp;apply hK;clear hK K)
  refine af rfl ?_;refine al rfl fun K hK=>?_;go_simp;refine Dg.out.mono ?_;rintro e4 w4 ⟨a4,n4,c4,D4,rfl,hle4,hrf4,hs4⟩;have xX:=FH hle4;have wO:=FH hs4;have A0:=FH (lF (HE.out.rows.mono hle4) Bc.out Bd.out hrf4 hs4);clear hle4 hrf4 hs4 Dg wI c0 c1 cf ltc k0 k1 k2 kf hf0;refine hK _ _ ?_;clear hK K;refine wpList_nil ?_;apply And.intro
  ·go_simp
  refine af rfl ?_;refine al rfl fun K hK=>?_;go_simp;refine A0.out.mono ?_;rintro e5 w5 ⟨D5,lv,rfl,hle5,htl5,hs5⟩;have xA:=FH (xX.out.trans hle5);have Ac:=FH htl5;have wT:=FH hs5;clear hle5 htl5 hs5 A0 wO;refine hK _ _ ?_;clear hK K;refine wpList_nil ?_;apply And.intro
  ·go_simp
  refine ag ?_;have hch:=dr wT.out (mP (E:={ E with lv:=lv }) HE.out.lens);have cf:=(bS wT.out).2.2;rw [show({ E with lv:=lv }:DxE).ch=(X.log.length:Int)from HE.out.ch]at hch;obtain⟨z,hz⟩:∃z:Int,((X.log.length+1:Nat):Int)=z:=⟨_,rfl⟩;have hw1:IntKind.i64.wrap ((X.log.length:Int)+1)=z:=by rw [Gr _ (by have:=xM.out;omega)];omega
  have wK:=FH (ga wT.out (gl (E:={ E with lv:=lv }) HE.out.lens z));have yg:=FH (show((X.out (i:Int) k).log.length:Int)=z by rw [←hz];show((X.log ++ [_]).length:Int)=_;rw [FR];rfl);clear hz;have wR:=FH (show SameT X (X.out (i:Int) k) 1 from⟨rfl,rfl,rfl,by show(X.log ++ [_]).length=_;rw [FR];rfl⟩);go_upto_region 6 with fail
  obtain⟨W6,hW6⟩:∃W,W=w5.setCell ⟨x,10,none⟩ (.int .i64 z):=⟨_,rfl⟩;rw [←hW6]at wK ⊢;have wH:=FH (wK.out.front 1 rfl);clear hW6 hch cf hw1 wT wK;go_wp2_with (refine ah rfl _ _ _ rfl aL br rfl [.int .i64 0,.slice none 0 0,.int .i64 1] rfl _ wH.out (by kernel_rfl) rfl (by intro u hu;simp at hu;rcases hu with rfl|rfl|rfl<;>rfl) ?_;intro w7 hs7;have wP:=FH hs7;clear hs7 wH);refine bodyPost_ret (av rfl _ _ rfl (aJ rfl (aj (wP.out.blk 0 rfl)))) rfl ?_;rw [Az.out];exact DxAns.plain xA.out ⟨_,(HE.out.mono xA.out).ext Dh.out wR.out (by rw [xN.out];exact Ac.out),by rw [yg.out];exact wP.out.drop.swap.drop⟩
theorem sE {B w:World}{D:PH}{l:List HP}{x i n c:Nat}{X:TxM}{k:Val}{sv:Value}{sets:List SetM}{cc:List Bool}(hI:TxI n c X)(hcc:X.cols[i]?=some cc)(hst:cG cc sets=true)(hsv:SetsF D sv sets)(hlog:X.log.length+200≤1000000)(h:gt B w D x X l) :
  Calls Tryz.prog 52 #[.pointer (some ⟨x,0,none⟩),.int .i64 i,k.v,sv] w (DxAns B D x l (X.one (i:Int) k sets)):=by
 obtain⟨E,hE,hs⟩:=h;obtain⟨cc',m,hcc',hm,hT,h200,hmn,_⟩:=hI.tab (FO.1 hcc).1;rw [hcc]at hcc';cases hcc';have htl:=(FO.1 hm).1;obtain⟨W1,hW1,hs1⟩:∃W,W=(w.alloc (.cells #[.bool k.t,.int .i64 k.n,.string k.s] tV)).alloc (.cells aZ aL)∧Sat B D W (blk x E.cells.toArray tDx::blk (w.heap.size+1) aZ aL::blk w.heap.size #[.bool k.t,.int .i64 k.n,.string k.s] tV::l):=by
  have h1:=(hs.alloc #[.bool k.t,.int .i64 k.n,.string k.s] tV).alloc aZ aL;rw [World.size_alloc]at h1;exact⟨_,rfl,h1.front 2 rfl⟩
 obtain⟨lg,log,lc,ra,rc,hlv,hrf,hcell⟩:=fR hE hm hs1;obtain⟨c0,c1,cf⟩:=bS hs1.drew;rw [hlv]at c1;have ltc:=hcell _ _ hs1.drew;obtain⟨k0,k1,k2,kf⟩:=aQ (hs1.drew.blk 2 rfl);have zB:=FH (jG (k:=k) hrf (fun r hr=>by obtain⟨k,h0,_⟩:=cO (hT.fits r hr);exact(FO.1 h0).1) hs1.drew);have Az:=FH (show X.one (i:Int) k sets=match aP m k with|none=>(X,bJ 61)|some r=>X.all (i:Int) [r] sets by unfold TxM.one;rw [cE hm];cases aP m k<;>rfl);have wM:=FH hW1;have wG:=FH hs1;have HE:=FH hE;have HT:=FH hT;have HM:=FH hm;have HI:=FH hI;have yj:=FH hcc;have xm:=FH hst;have xW:=FH hsv;have xM:=FH hlog;have hiT:(i:Int)<(X.tabs.length:Int):=by omega
 generalize X.tabs.length=TN at *;clear hs hW1 hs1 hE hT hm hrf hcell hlv hlog htl hI hcc h200 hmn hst hsv;go_enter Tryz.func52,Tryz.ntmps52;go_upto_region 1 with fail
 rw [←wM.out];clear wM;generalize w.heap.size+1=br at wG zB k0 k1 k2 kf ⊢;generalize w.heap.size=bk at wG zB k0 k1 k2 kf ⊢;refine aH [rq 0 9,rq 1 9,rq 2 9,rq 3 9,rq 4 9,rq 5 9,rq 6 9,rq 7 9,rq 8 9,(9,true,0),rq 10 999] ?_;iterate 9 (refine ae rfl rfl fun K hK=>?_;go_simp;apply hK;clear hK K)
 refine af rfl ?_;refine al rfl fun K hK=>?_;go_simp;refine zB.out.mono ?_;rintro e3 w3 ⟨fa,fn,fc,rfl,hfr,hs3⟩;have ya:=FH hfr;have wI:=FH hs3;clear hfr hs3 zB wG c0 c1 cf ltc k0 k1 k2 kf;refine hK _ _ ?_;clear hK K;refine wpList_nil ?_;apply And.intro
 ·go_simp
 refine ae rfl rfl fun K hK=>?_;go_simp;apply hK;clear hK K;refine ag ?_;cases hf:aP m k with
 | none =>
  rw [hf]at ya Az;have hfn:=eT ya.out.1;simp at hfn;subst hfn;have wH:=FH (wI.out.front 1 rfl);clear hf;go_wp2_with (refine ah rfl _ _ _ rfl aL br rfl [.int .i64 61,.slice none 0 0,.int .i64 0] rfl _ wH.out (by kernel_rfl) rfl (by intro u hu;simp at hu;rcases hu with rfl|rfl|rfl<;>rfl) ?_;intro w7 hs7;have wP:=FH hs7;clear hs7 wH);refine bodyPost_ret (av rfl _ _ rfl (aJ rfl (aj (wP.out.blk 0 rfl)))) rfl ?_;rw [Az.out];exact DxAns.plain (PH.le.refl _) ⟨E,HE.out,wP.out.drop.swap.drop⟩
 | some r =>
  rw [hf]at ya Az;obtain⟨hrm,_⟩:=cV hf;have hfn:=eT ya.out.1;rw [Option.getD_some]at hfn;have hpr:0<r.length:=by obtain⟨k,h0,_⟩:=cO (HT.out.fits r hrm);exact(FO.1 h0).1
  have hf0:((fn:Int) == 0)=false:=by simp;omega
  have hs4:=wI.out.own_fresh (e:=tW) (size:=1) (n:=1) (cap:=1) (cs:=#[.slice fa fn fc]) (xs:=[.slice fa fn fc]) (Gn _) (by unfold maxLen;omega) (by simp) (by simp) (by intro u hu;simp at hu;subst hu;rfl);obtain⟨D4,le4,hrf4,hs5⟩:=((RowsH.nil D).snoc ya.out).give rfl hs4;have xX:=FH le4;have Em:=FH (show RowsF D4 (.slice (some ⟨w3.heap.size,0,none⟩) 1 1) [r]from hrf4);have yM:=FH (l5 HI.out yj.out Em.out (fun m' hm' q hq=>by rw [HM.out]at hm';cases hm';obtain rfl:=List.mem_singleton.1 hq;exact hrm) xm.out (xW.out.mono le4) (by simp) xM.out ⟨E,HE.out.mono le4,hs5⟩);clear hf hrm hfn hpr hs4 le4 hrf4 hs5 wI;go_wp2_with fail;refine yM.out.mono ?_;rintro e5 w5 (⟨q5,rfl,D5,le5,E5,hE5,hs5⟩|⟨q5,rfl,D5,le5,E5,hE5,hs5⟩)
  ·have xA:=FH (xX.out.trans le5)
   have Bo:=FH hE5;have wH:=FH (hs5.front 1 rfl);have xI:=FH (show X.all (i:Int) [r] sets=(X,bJ 21) by unfold TxM.all;rw [fF yj.out,if_neg (by rw [q5];decide),q5]);clear q5 le5 hE5 hs5 yM;go_wp2_with (refine ah rfl _ _ _ rfl aL br rfl [.int .i64 21,.slice none 0 0,.int .i64 0] rfl _ wH.out (by kernel_rfl) rfl (by intro u hu;simp at hu;rcases hu with rfl|rfl|rfl<;>rfl) ?_;intro w7 hs7;have wP:=FH hs7;clear hs7 wH);refine bodyPost_ret (av rfl _ _ rfl (aJ rfl (aj (wP.out.blk 0 rfl)))) rfl ?_;rw [Az.out,xI.out];exact DxAns.plain xA.out ⟨E5,Bo.out,wP.out.drop.swap.drop⟩
  ·have xA:=FH (xX.out.trans le5)
   have Bo:=FH hE5;have wH:=FH (hs5.front 1 rfl);have xI:=FH (show X.all (i:Int) [r] sets=((X.all (i:Int) [r] sets).1,fL 1) by unfold TxM.all;rw [fF yj.out,if_pos q5];rfl);clear q5 le5 hE5 hs5 yM;go_wp2_with (refine ah rfl _ _ _ rfl aL br rfl [.int .i64 0,.slice none 0 0,.int .i64 1] rfl _ wH.out (by kernel_rfl) rfl (by intro u hu;simp at hu;rcases hu with rfl|rfl|rfl<;>rfl) ?_;intro w7 hs7;have wP:=FH hs7;clear hs7 wH);refine bodyPost_ret (av rfl _ _ rfl (aJ rfl (aj (wP.out.blk 0 rfl)))) rfl ?_;rw [Az.out,xI.out];exact DxAns.plain xA.out ⟨E5,Bo.out,wP.out.drop.swap.drop⟩
end Go.Proofs.YtdobimafhbfkhaaGreat
