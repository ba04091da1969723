/- What is read of a transaction; answers, and what follows. -/
import Derived.Test.YtdobimafhbfkhaaGreatOY25
import Derived.Test.YtdobimafhbfkhaaGreatOY20
set_option maxHeartbeats 64000000
namespace Go.Proofs.YtdobimafhbfkhaaGreat
open Go.ChangeShapes Go.WideShapes Go.ChangeAt Go.RowKit
set_option maxRecDepth 100000
set_option linter.unusedSimpArgs false
abbrev aL : TypeId:=61
abbrev aZ : Array Value:=#[.int .i64 0,.slice none 0 0,.int .i64 0]
def RowsF (D:PH)(v:Value)(rs:List (List Val)):Prop:=RowsAt D v rs∧∀r∈rs,bG r
theorem RowsF.mono {D D':PH}(le:PH.le D D'){v:Value}{rs:List (List Val)}(h:RowsF D v rs):RowsF D' v rs:=⟨h.1.mono le,h.2⟩
theorem RowsF.nil (D:PH):RowsF D (.slice none 0 0) []:=⟨⟨[],rfl,by simp,RdP.nil _ _,by simp⟩,by simp⟩
def et (B:World)(D:PH)(x o:Nat)(l:List HP)(p:TxM×AnsM)(e:Ending)(w':World):Prop:=∃(ra:Option Addr) (rn rc:Nat) (D':PH),e = .returned (.agg #[.int .i64 p.2.e,.slice ra rn rc,.int .i64 p.2.n])∧PH.le D D'∧RowsF D' (.slice ra rn rc) p.2.rows∧TxIn B w' D' x o p.1 l
theorem aJ {w:World}{g o:Nat}{cs:List Value}(hl:cs.length=3)(h:w.rangeAt g o cs):(loadVar aL ⟨g,o,none⟩).run Tryz.prog w = .ok (.agg cs.toArray) w:=by
 match cs,hl with
 | [a,b,c],_=>exact run_loadVar_mid w g o _ _ _ h Tryz.underlying61 rfl (by kernel_rfl)
section
variable {B w w' : World} {D : PH} {x o i : Nat} {X : TxM} {l : List HP} {m : aq}
theorem TxIn.sat (h:TxIn B w D x o X l):Sat B D w l:=by
 obtain⟨H,_,hs⟩:=h;exact hs.drop.drop.drop
theorem TxIn.kept (h:TxIn B w D x o X l)(k:Kept (fun _=>False) w w'):TxIn B w' D x o X l:=by
 obtain⟨H,h1,hs⟩:=h;exact⟨H,h1,hs.kept k⟩
theorem TxIn.alloc (h:TxIn B w D x o X l)(cs:Array Value)(t:TypeId):TxIn B (w.alloc (.cells cs t)) D x o X (blk w.heap.size cs t::l):=by
 obtain⟨H,h1,hs⟩:=h;exact⟨H,h1,(hs.alloc cs t).perm (Ge (l₁:=txL D x o X H) (a:=blk w.heap.size cs t) (l₂:=l)).symm⟩
theorem TxIn.perm {l':List HP}(h:TxIn B w D x o X l)(p:List.Perm l l'):TxIn B w D x o X l':=by
 obtain⟨H,h1,hs⟩:=h;exact⟨H,h1,hs.perm (p.append_left _)⟩
theorem TxIn.drop {a:HP}(h:TxIn B w D x o X (a::l)):TxIn B w D x o X l:=by
 obtain⟨H,h1,hs⟩:=h;exact⟨H,h1,(hs.perm (Ge (l₁:=txL D x o X H) (a:=a) (l₂:=l))).drop⟩
theorem TxIn.step {l':List HP}(h:TxIn B w D x o X l)(f:∀L,Sat B D w (l++L)→Sat B D w' (l'++L)):TxIn B w' D x o X l':=by
 obtain⟨H,h1,hs⟩:=h;exact⟨H,h1,(f _ (hs.perm List.perm_append_comm)).perm List.perm_append_comm⟩
theorem eS (h:TxIn B w D x o X l)(hm:X.tabs[i]?=some m):∃t g og pc,w.cell? ⟨x,0,none⟩=some (.pointer (some ⟨o,0,none⟩))∧w.cell? ⟨o,1,none⟩=some (.slice (some ⟨g,og,none⟩) X.tabs.length pc)∧w.cell? ⟨g,og+i,none⟩=some (.pointer (some ⟨t,0,none⟩)) ∧
  ∀k:Val,Calls Tryz.prog 93 #[.pointer (some ⟨t,0,none⟩),k.v] w.drew fun e w'=>∃ra rn rc,e = .returned (.tuple #[.slice ra rn rc,.bool (aP m k).isSome])∧RowF D (.slice ra rn rc) ((aP m k).getD [])∧Kept (fun _=>False) w w':=by
 obtain⟨H,hH,hs⟩:=h;obtain⟨c0,_,_⟩:=dj hs;obtain⟨y,hy,hs2⟩:=gB (jd hs);obtain⟨_,d1⟩:=dJ hs2;obtain⟨t,g,og,pc,ht,hpv,hpc⟩:=iG hy hm hs2;rw [hpv]at d1;refine⟨t,g,og,pc,c0,d1,hpc,fun k=>(rQ k hm ht hs2.drew).mono ?_⟩;rintro e w' ⟨v,rfl,hr,hk⟩;obtain⟨ra,rn,rcc,rfl⟩:∃a n c,v = .slice a n c:=by obtain⟨_,_,ao,rc,h,_⟩:=hr.1;exact⟨ao,_,rc,h⟩
 exact⟨ra,rn,rcc,rfl,hr,(Kept.refl (fun _=>False) w).drew.trans hk (fun _ h=>h.elim)⟩
end
theorem ay {P:Program}{B w:World}{D:PH}{x o:Nat}{X:TxM}{l:List HP}{ops:Array Oper}{rest:List Oper}{oo:Oper}{a:Act}{Q:Exit→Act→World→Prop}(hgd:oo.guard=none)(ty:TypeId)(xo yo:Operand)(ho:oo.op = .store ty xo yo)(e:TypeId)(g:Nat)(hx:a.eval xo = .pointer (some ⟨g,0,none⟩))(cs:List Value)(hy:a.eval yo = .agg cs.toArray)(cur:Array Value)(hs:TxIn B w D x o X (blk g cur e::l))
  (hi:(P.info? ty).map (·.size)=some cs.length) (hfit:cur.size=cs.length) (h1:∀u∈cs,u.oneCell'=true)
  (h:∀w',TxIn B w' D x o X (blk g cs.toArray e::l)→wpList P ops Q rest (a.put oo.dst undef) w'):wpList P ops Q (oo::rest) a w:=by
 obtain⟨H,hH,hs⟩:=hs;refine ah hgd ty xo yo ho e g hx cs hy cur (hs.perm (Ge (l₁:=txL D x o X H) (a:=blk g cur e) (l₂:=l))) hi hfit h1 (fun w' hs'=>h w' ?_);exact⟨H,hH,hs'.perm (Ge (l₁:=txL D x o X H) (a:=blk g cs.toArray e) (l₂:=l)).symm⟩
theorem nO {B w:World}{D:PH}{x o i:Nat}{X:TxM}{l:List HP}{m:aq}{k:Val}(hm:X.tabs[i]?=some m)(hk:am k=true)(hb:X.log.length+1≤10000)(h:TxIn B w D x o X l) :
  Calls Tryz.prog 96 #[.pointer (some ⟨x,0,none⟩),.int .i64 i,k.v] w (et B D x o l (X.drop i k)):=by
 obtain⟨W0,hW0,h0⟩:∃W,W=(w.alloc (.cells #[.bool k.t,.int .i64 k.n,.string k.s] tV)).alloc (.cells aZ aL)∧TxIn B W D x o X (blk (w.heap.size+1) aZ aL::blk w.heap.size k.cells.toArray tV::l):=by
  have h1:=(h.alloc k.cells.toArray tV).alloc aZ aL;rw [World.size_alloc]at h1;exact⟨_,rfl,h1⟩
 have xh:=FH hW0;obtain⟨t,g,og,pc,c0,d1,hpc,hget⟩:=eS h0 hm;have HG:=FH (hget k);have hlt:(i:Int)<(X.tabs.length:Int):=by have:=(FO.1 hm).1;omega
 have wS:=FH h0;have HM:=FH hm;have HK:=FH hk;have HB:=FH hb;have C0:=FH c0;have D1:=FH d1;have PC:=FH hpc;generalize hTN:X.tabs.length=TN at *;clear h hm hk hb hW0 h0 c0 d1 hpc hget hTN;go_enter Tryz.func96,Tryz.ntmps96;go_upto_region 1 with fail
 rw [←xh.out];clear xh;generalize w.heap.size+1=ba at wS ⊢;generalize w.heap.size=bk at wS ⊢;obtain⟨x0,x1,x2,xf⟩:=aQ (show W0.heap[bk]?=some (.cells #[.bool k.t,.int .i64 k.n,.string k.s] tV (0,0))from wS.out.sat.blk 1 rfl);have c0:=C0.out;have d1:=D1.out;have hpc:=PC.out;refine aH [rq 0 11,rq 1 11,rq 2 11,rq 3 11,rq 4 11,rq 5 11,rq 6 11,rq 7 11,rq 8 11,rq 9 11,rq 10 11,(11,true,0),rq 12 999,rq 13 999,rq 14 999,rq 15 999,rq 16 999] ?_;iterate 11 (refine ae rfl rfl fun K hK=>?_;go_simp;apply hK;clear hK K)
 refine af rfl ?_;refine al rfl fun K hK=>?_;go_simp;refine HG.out.mono ?_;rintro e1 w1 ⟨ra,rn,rc,rfl,-,hk1⟩;have wG:=FH (wS.out.kept hk1);clear hk1 wS HG c0 d1 hpc x0 x1 x2 xf C0 D1 PC;refine hK _ _ ?_;clear hK K;refine wpList_nil ?_;apply And.intro
 ·go_simp
 iterate 5 (refine ae rfl rfl fun K hK=>?_;go_simp;apply hK;clear hK K)
 refine ag ?_;obtain⟨X',hX'⟩:∃X',X.drop i k=X':=⟨_,rfl⟩;have zS:=FH hX';cases hf:aP m k with
 | none =>
  have HE:=FH (show X.drop (i:Int) k=(X,bJ 61) by unfold TxM.drop;rw [gC HM.out,hf]);go_wp2_with (refine ay rfl _ _ _ rfl aL ba rfl [.int .i64 61,.slice none 0 0,.int .i64 0] rfl aZ wG.out (by kernel_rfl) rfl (by intro u hu;simp at hu;rcases hu with rfl|rfl|rfl<;>rfl) ?_;intro w6 hs6;have wK:=FH hs6;clear hs6 wG);refine bodyPost_ret (av rfl _ _ rfl (aJ rfl (aj (wK.out.sat.blk 0 rfl)))) rfl ?_;rw [HE.out];exact⟨none,0,0,D,rfl,PH.le.refl _,RowsF.nil _,wK.out.drop.drop⟩
 | some r =>
  have HE:=FH (show X.drop (i:Int) k=(X.out i k,fL 1) by unfold TxM.drop;rw [gC HM.out,hf]);obtain⟨x0,x1,x2,xf⟩:=aQ (show w1.heap[bk]?=some (.cells #[.bool k.t,.int .i64 k.n,.string k.s] tV (0,0))from wG.out.sat.blk 1 rfl);have HO:=FH (qQ HM.out HK.out HB.out wG.out);go_wp2_with (first|(go_at_call 98;refine HO.out.mono ?_;rintro e2 w2 ⟨rfl,hs2⟩;have wJ:=FH hs2;clear hs2 HO wG x0 x1 x2 xf)|(refine ay rfl _ _ _ rfl aL ba rfl [.int .i64 0,.slice none 0 0,.int .i64 1] rfl aZ wJ.out (by kernel_rfl) rfl (by intro u hu;simp at hu;rcases hu with rfl|rfl|rfl<;>rfl) ?_;intro w6 hs6;have wK:=FH hs6;clear hs6 wJ));refine bodyPost_ret (av rfl _ _ rfl (aJ rfl (aj (wK.out.sat.blk 0 rfl)))) rfl ?_;rw [HE.out];exact⟨none,0,0,D,rfl,PH.le.refl _,RowsF.nil _,wK.out.drop.drop⟩
abbrev tSt : TypeId:=32
structure StmE where
 kind:Int
 level:Int
 table:Int
 key:Val
 row:VT
 sets:VT
 pe:PredE
 save:Int
 cursor:Int
 change:Bool
def StmE.cells (s:StmE):List Value:=[.int .i64 s.kind,.int .i64 s.level,.int .i64 s.table,.bool s.key.t,.int .i64 s.key.n,.string s.key.s,s.row.v,s.sets.v,
 .int .i64 s.pe.op,.int .i64 s.pe.col,.bool s.pe.v.t,.int .i64 s.pe.v.n,.string s.pe.v.s,.bool s.pe.w.t,.int .i64 s.pe.w.n,.string s.pe.w.s,.slice s.pe.la s.pe.ln s.pe.lc,.int .i64 s.save,.int .i64 s.cursor,.bool s.change]
theorem StmE.len (s:StmE):s.cells.length=20:=rfl
theorem StmE.one (s:StmE):∀u∈s.cells,u.oneCell'=true:=by
 intro u hu;simp [StmE.cells]at hu;rcases hu with rfl|rfl|rfl|rfl|rfl|rfl|rfl|rfl|rfl|rfl|rfl|rfl|rfl|rfl|rfl|rfl|rfl|rfl|rfl|rfl<;>rfl
@[go_sem] theorem sizeStm (x:StmE):x.cells.toArray.size=20:=rfl
theorem fp {w:World}{g o:Nat}{x:StmE}(h:w.rangeAt g o x.cells):(loadVar tSt ⟨g,o,none⟩).run Tryz.prog w = .ok (.agg x.cells.toArray) w:=run_loadVar_mid w g o _ _ _ h Tryz.underlying32 rfl (by kernel_rfl)
structure StmOk (D:PH)(e:StmE)(s:StmM):Prop where
 kind:e.kind=s.kind
 table:e.table=s.table
 key:e.key=s.key
 row:RowF D e.row.v s.row
 sets:SetsF D e.sets.v s.sets
 pred:e.pe.p=s.pred
 subs:PredsAt D (.slice e.pe.la e.pe.ln e.pe.lc) e.pe.subs
 save:e.save=s.save
 cursor:e.cursor=s.cursor
 change:e.change=s.change
 fit:s.key.fit
theorem StmOk.mono {D D':PH}(le:PH.le D D'){e:StmE}{s:StmM}(h:StmOk D e s):StmOk D' e s :=
 ⟨h.kind,h.table,h.key,h.row.mono le,h.sets.mono le,h.pred,h.subs.mono le,h.save,h.cursor,h.change,h.fit⟩
theorem aO {w:World}{b:Nat}{x:StmE}{t:TypeId}{fr:Nat×Nat}(h:w.heap[b]?=some (.cells x.cells.toArray t fr)) :
  w.cell? ⟨b,0,none⟩=some (.int .i64 x.kind)∧w.cell? ⟨b,2,none⟩=some (.int .i64 x.table)∧w.cell? ⟨b,3,none⟩=some (.bool x.key.t)∧w.cell? ⟨b,4,none⟩=some (.int .i64 x.key.n)∧w.cell? ⟨b,5,none⟩=some (.string x.key.s) ∧
   w.cell? ⟨b,6,none⟩=some x.row.v∧w.cell? ⟨b,7,none⟩=some x.sets.v∧w.cell? ⟨b,17,none⟩=some (.int .i64 x.save)∧w.cell? ⟨b,18,none⟩=some (.int .i64 x.cursor)∧w.cell? ⟨b,19,none⟩=some (.bool x.change):=by
 refine⟨?_,?_,?_,?_,?_,?_,?_,?_,?_,?_⟩<;>simp [World.cell?,h,StmE.cells]
theorem ej {B w:World}{D:PH}{x o:Nat}{X:TxM}{l:List HP}(h:TxIn B w D x o X l)(c1 c2:Array Value)(t1 t2:TypeId):∃W,W=(w.alloc (.cells c1 t1)).alloc (.cells c2 t2)∧TxIn B W D x o X (blk (w.heap.size+1) c2 t2::blk w.heap.size c1 t1::l):=by
 have h1:=(h.alloc c1 t1).alloc c2 t2;rw [World.size_alloc]at h1;exact⟨_,rfl,h1⟩
def TxM.insert (X:TxM)(s:StmM):TxM×AnsM:=if (aP (X.tab s.table) (au s.row)).isSome then (X,bJ 60)else (X.put s.table s.row,fL 1)
theorem stm_row {D:PH}{e:StmE}{s:StmM}{k:Val}(hs:StmOk D e s)(h0:s.row[0]?=some k):∃rg rog rc,e.row=⟨some ⟨rg,rog,none⟩,s.row.length,rc⟩:=by
 have hp:=(FO.1 h0).1;obtain⟨_,_,ao,rc,hv,_,_,_,hc⟩:=hs.row.1;rcases hc with h|⟨g,og,hg,_⟩
 ·omega
 ·refine⟨g,og,rc,?_⟩
  obtain⟨⟨ro,rn,rcc⟩,hr⟩:∃r:VT,e.row=r:=⟨_,rfl⟩;rw [hr]at hv ⊢;have hv2:Value.slice ro rn rcc = .slice ao s.row.length rc:=hv;cases hv2;rw [hg]
theorem qF {B w:World}{D:PH}{x o i:Nat}{X:TxM}{l:List HP}{m:aq}{e:StmE}{s:StmM}{k:Val}(hs:StmOk D e s)(hi:s.table=(i:Int))(hm:X.tabs[i]?=some m)(h0:s.row[0]?=some k)(hk:am k=true)(hl:aP m k=none→(cw m s.row).length≤200)(hb:X.log.length+1≤10000)(hrl:s.row.length≤1000000)(h:TxIn B w D x o X l) :
  Calls Tryz.prog 71 #[.pointer (some ⟨x,0,none⟩),.agg e.cells.toArray] w (et B D x o l (X.insert s)):=by
 have hkr:au s.row=k:=by unfold au;rw [←List.head?_eq_getElem?]at h0;cases hr:s.row with|nil=>rw [hr]at h0;cases h0|cons a t=>rw [hr]at h0;simp at h0;subst h0;rfl
 have zN:=FH (show X.insert s=if (aP m k).isSome then (X,bJ 60)else (X.put i s.row,fL 1) by unfold TxM.insert;rw [hi,gC hm,hkr]);obtain⟨W0,hW0,h2⟩:=ej h e.cells.toArray aZ tSt aL;have xh:=FH hW0;obtain⟨t,g,og,pc,c0,d1,hpc,hget⟩:=eS h2 hm;have HG:=FH (hget k);have hlt:(i:Int)<(X.tabs.length:Int):=by have:=(FO.1 hm).1;omega
 have wS:=FH h2;have HM:=FH hm;have HK:=FH hk;have HB:=FH hb;have C0:=FH c0;have D1:=FH d1;have PC:=FH hpc;have wR:=FH hs;have H0:=FH h0;have HL:=FH hl;have Bj:=FH hrl;have xN:=FH (show e.table=(i:Int)from hs.table.trans hi);obtain⟨rg,rog,rc,hrow⟩:=stm_row hs h0;have xg:=FH (show RowF D (.slice (some ⟨rg,rog,none⟩) s.row.length rc) s.row by have:=hs.row;rw [hrow]at this;exact this);have hlen2:0<s.row.length:=(FO.1 h0).1;have hlen:(0:Int)<(s.row.length:Int):=by omega
 have xT:=FH (show e.row.v = .slice (some ⟨rg,rog,none⟩) s.row.length rc by rw [hrow]);have wQ:=FH (RdP.rd xg.out.1 h2.sat);obtain⟨y0,y1,y2⟩:=aE (h:=0) wQ.out h0;rw [Nat.zero_mul,Nat.add_zero]at y0 y1 y2;have Y0:=FH y0;have Y1:=FH y1;have Y2:=FH y2;generalize hRN:s.row.length=RN at *;have AB:=FH hRN;generalize hTN:X.tabs.length=TN at *;clear h hs hi hm hk hl hb hrl hW0 h2 h0 c0 d1 hpc hget hTN hkr hrow hRN wQ y0 y1 y2;go_enter Tryz.func71,Tryz.ntmps71;go_upto_region 1 with fail
 rw [←xh.out];clear xh;generalize w.heap.size+1=ba at wS ⊢;generalize w.heap.size=bs at wS ⊢;obtain⟨x0,x2,x3,x4,x5,x6,x7,x17,x18,x19⟩:=aO (wS.out.sat.blk 1 rfl);rw [xN.out]at x2;rw [xT.out]at x6;have c0:=C0.out;have d1:=D1.out;have hpc:=PC.out;have y0:=Y0.out;have y1:=Y1.out;have y2:=Y2.out;refine aH [rq 0 15,rq 1 15,rq 2 15,rq 3 15,rq 4 15,rq 5 15,rq 6 15,rq 7 15,rq 8 15,rq 9 15,rq 10 15,rq 11 15,rq 12 15,rq 13 15,rq 14 15,(15,true,0),rq 16 999,rq 17 999,rq 18 999,rq 19 999,rq 20 999] ?_;iterate 15 (refine ae rfl rfl fun K hK=>?_;go_simp;apply hK;clear hK K)
 refine af rfl ?_;refine al rfl fun K hK=>?_;go_simp;refine HG.out.mono ?_;rintro e1 w1 ⟨ra,rn,rc2,rfl,-,hk1⟩;have wG:=FH (wS.out.kept hk1);clear hk1 wS HG c0 d1 hpc C0 D1 PC x0 x2 x3 x4 x5 x6 x7 x17 x18 x19 y0 y1 y2 Y0 Y1 Y2;refine hK _ _ ?_;clear hK K;refine wpList_nil ?_;apply And.intro
 ·go_simp
 iterate 5 (refine ae rfl rfl fun K hK=>?_;go_simp;apply hK;clear hK K)
 refine ag ?_;cases hf:aP m k with
 | some r =>
  have HE:=FH (show X.insert s=(X,bJ 60) by rw [zN.out,hf];rfl);clear hf;go_wp2_with (refine ay rfl _ _ _ rfl aL ba rfl [.int .i64 60,.slice none 0 0,.int .i64 0] rfl aZ wG.out (by kernel_rfl) rfl (by intro u hu;simp at hu;rcases hu with rfl|rfl|rfl<;>rfl) ?_;intro w6 hs6;have wK:=FH hs6;clear hs6 wG);refine bodyPost_ret (av rfl _ _ rfl (aJ rfl (aj (wK.out.sat.blk 0 rfl)))) rfl ?_;rw [HE.out];exact⟨none,0,0,D,rfl,PH.le.refl _,RowsF.nil _,wK.out.drop.drop⟩
 | none =>
  have HE:=FH (show X.insert s=(X.put i s.row,fL 1) by rw [zN.out,hf];rfl);have HP:=FH (pP HM.out xg.out H0.out HK.out (HL.out hf) HB.out (AB.out.symm▸Bj.out) wG.out);clear hf;obtain⟨x0,x2,x3,x4,x5,x6,x7,x17,x18,x19⟩:=aO (wG.out.sat.blk 1 rfl);rw [xN.out]at x2;rw [xT.out]at x6;go_wp2_with (first|(go_at_call 94;refine HP.out.mono ?_;rintro e2 w2 ⟨rfl,D2,hle,hs2⟩;have wU:=FH hle;have wJ:=FH hs2;clear hle hs2 HP wG x0 x2 x3 x4 x5 x6 x7 x17 x18 x19)|(refine ay rfl _ _ _ rfl aL ba rfl [.int .i64 0,.slice none 0 0,.int .i64 1] rfl aZ wJ.out (by kernel_rfl) rfl (by intro u hu;simp at hu;rcases hu with rfl|rfl|rfl<;>rfl) ?_;intro w6 hs6;have wK:=FH hs6;clear hs6 wJ));refine bodyPost_ret (av rfl _ _ rfl (aJ rfl (aj (wK.out.sat.blk 0 rfl)))) rfl ?_;rw [HE.out];exact⟨none,0,0,D2,rfl,wU.out,RowsF.nil _,wK.out.drop.drop⟩
section
variable {B w w' : World} {D D' : PH} {x o i : Nat} {X : TxM} {H : TxH} {l : List HP} {m : aq}
theorem lq (hH:TxOk D X H)(le:PH.le D D')(hs:Sat B D' w (txL D x o X H++l)):TxIn B w D' x o X l :=
 ⟨H,hH.mono le,gA (D:=D') (j5 le (jd hs))⟩
theorem ve (h:TxIn B w D x o X l){v:Value}{r:List Val}(hr:RowF D v r)(hl:r.length≤1000000) :
  Calls Tryz.prog 63 #[v] w fun e w'=>∃a n c D',e = .returned (.slice a n c)∧PH.le D D'∧RowF D' (.slice a n c) r∧TxIn B w' D' x o X l:=by
 obtain⟨H,hH,hs⟩:=h;refine(iU (RdP.rd hr.1 hs) hl hs).mono ?_;rintro e w' ⟨v',rfl,hs'⟩;obtain⟨D',hle,hrd,hs2⟩:=hs'.own_give;obtain⟨a,c,rfl⟩:=hrd.shape;exact⟨a,_,c,D',rfl,hle,⟨hrd,hr.2⟩,lq hH hle hs2⟩
theorem ql (h:TxIn B w D x o X l){a:Option Addr}{n c:Nat}{r:List Val}(hr:RowF D (.slice a n c) r) :
  ∃D',PH.le D D'∧RowsF D' (.slice (some ⟨w.heap.size,0,none⟩) 1 1) [r]∧TxIn B (w.alloc (.cells #[.slice a n c] tW)) D' x o X l:=by
 obtain⟨H,hH,hs⟩:=h;have h1:=hs.own_fresh (e:=tW) (size:=1) (n:=1) (cap:=1) (cs:=#[.slice a n c]) (xs:=[.slice a n c]) (by omega) (by unfold maxLen;omega) (by simp) (by simp) (by intro u hu;simp at hu;subst hu;rfl);obtain⟨D',hle,hrd,hs2⟩:=h1.own_give;refine⟨D',hle,⟨⟨[.slice a n c],rfl,by intro u hu;simp at hu;subst hu;rfl,hrd,?_⟩,?_⟩,lq hH hle hs2⟩
 ·intro j u q hu hq
  cases j with
  | zero=>simp at hu hq;subst hu hq;exact hr.1.mono hle
  | succ j=>simp at hu
 ·intro q hq
  simp at hq;subst hq;exact hr.2
end
def TxM.get (X:TxM)(s:StmM):TxM×AnsM:=(X,match aP (X.tab s.table) s.key with
 | none=>bJ 61
 | some r=>⟨0,[r],0⟩)
theorem pZ {B w:World}{D:PH}{x o i:Nat}{X:TxM}{l:List HP}{m:aq}{e:StmE}{s:StmM}(hs:StmOk D e s)(hi:s.table=(i:Int))(hm:X.tabs[i]?=some m)(hk:am s.key=true)(hb:X.log.length+1≤10000)(h:TxIn B w D x o X l) :
  Calls Tryz.prog 73 #[.pointer (some ⟨x,0,none⟩),.agg e.cells.toArray] w (et B D x o l (X.drop s.table s.key)):=by
 obtain⟨W0,hW0,h2⟩:=ej h e.cells.toArray aZ tSt aL;have xh:=FH hW0;have HP:=FH (nO hm hk hb h2);rw [←hi]at HP;have wS:=FH h2;have xN:=FH hs.table;have CY:=FH hs.key;clear h hs hi hm hk hb hW0 h2;go_enter Tryz.func73,Tryz.ntmps73;go_upto_region 1 with fail
 rw [←xh.out];clear xh;generalize w.heap.size+1=ba at wS HP ⊢;generalize w.heap.size=bs at wS HP ⊢;obtain⟨x0,x2,x3,x4,x5,x6,x7,x17,x18,x19⟩:=aO (wS.out.sat.blk 1 rfl);rw [xN.out]at x2;rw [CY.out]at x3 x4 x5;go_wp2_with (first|(go_at_call 96;refine HP.out.mono ?_;rintro e2 w2 ⟨ra,rn,rc,D2,rfl,hle,hrw,hs2⟩;have wU:=FH hle;have xg:=FH hrw;have wJ:=FH hs2;clear hle hrw hs2 HP wS x0 x2 x3 x4 x5 x6 x7 x17 x18 x19)|(refine ay rfl _ _ _ rfl aL ba rfl [_,.slice ra rn rc,_] rfl aZ wJ.out (by kernel_rfl) rfl (by intro u hu;simp at hu;rcases hu with rfl|rfl|rfl<;>rfl) ?_;intro w6 hs6;have wK:=FH hs6;clear hs6 wJ));refine bodyPost_ret (av rfl _ _ rfl (aJ rfl (aj (wK.out.sat.blk 0 rfl)))) rfl ?_;exact⟨ra,rn,rc,D2,rfl,wU.out,xg.out,wK.out.drop.drop⟩
theorem uN {B w:World}{D:PH}{x o i:Nat}{X:TxM}{l:List HP}{m:aq}{e:StmE}{s:StmM}(hs:StmOk D e s)(hi:s.table=(i:Int))(hm:X.tabs[i]?=some m)(hrl:∀r∈m,r.length≤1000000)(h:TxIn B w D x o X l) :
  Calls Tryz.prog 70 #[.pointer (some ⟨x,0,none⟩),.agg e.cells.toArray] w (et B D x o l (X.get s)):=by
 have zN:=FH (show X.get s=(X,match aP m s.key with|none=>bJ 61|some r=>⟨0,[r],0⟩) by unfold TxM.get;rw [hi,gC hm]);obtain⟨W0,hW0,h2⟩:=ej h e.cells.toArray aZ tSt aL;have xh:=FH hW0;obtain⟨t,g,og,pc,c0,d1,hpc,hget⟩:=eS h2 hm;have HG:=FH (hget s.key);have hlt:(i:Int)<(X.tabs.length:Int):=by have:=(FO.1 hm).1;omega
 have wS:=FH h2;have HM:=FH hm;have C0:=FH c0;have D1:=FH d1;have PC:=FH hpc;have xN:=FH (show e.table=(i:Int)from hs.table.trans hi);have CY:=FH hs.key;have Bj:=FH (show ∀r,aP m s.key=some r→r.length≤1000000 from fun r hr=>hrl r (List.mem_of_find?_eq_some hr));generalize hTN:X.tabs.length=TN at *;clear h hs hi hm hrl hW0 h2 c0 d1 hpc hget hTN;go_enter Tryz.func70,Tryz.ntmps70;go_upto_region 1 with fail
 rw [←xh.out];clear xh;generalize w.heap.size+1=ba at wS ⊢;generalize w.heap.size=bs at wS ⊢;obtain⟨x0,x2,x3,x4,x5,x6,x7,x17,x18,x19⟩:=aO (wS.out.sat.blk 1 rfl);rw [xN.out]at x2;rw [CY.out]at x3 x4 x5;have c0:=C0.out;have d1:=D1.out;have hpc:=PC.out;refine aH [rq 0 13,rq 1 13,rq 2 13,rq 3 13,rq 4 13,rq 5 13,rq 6 13,rq 7 13,rq 8 13,rq 9 13,rq 10 13,rq 11 13,rq 12 13,(13,true,0),rq 14 999,rq 15 999,rq 16 999,rq 17 999,rq 18 999] ?_;iterate 13 (refine ae rfl rfl fun K hK=>?_;go_simp;apply hK;clear hK K)
 refine af rfl ?_;refine al rfl fun K hK=>?_;go_simp;refine HG.out.mono ?_;rintro e1 w1 ⟨ra,rn,rc2,rfl,hrow,hk1⟩;have AC:=FH hrow;have wG:=FH (wS.out.kept hk1);clear hk1 hrow wS HG c0 d1 hpc C0 D1 PC x0 x2 x3 x4 x5 x6 x7 x17 x18 x19;refine hK _ _ ?_;clear hK K;refine wpList_nil ?_;apply And.intro
 ·go_simp
 iterate 5 (refine ae rfl rfl fun K hK=>?_;go_simp;apply hK;clear hK K)
 refine ag ?_;cases hf:aP m s.key with
 | none =>
  have HE:=FH (show X.get s=(X,bJ 61) by rw [zN.out,hf]);clear hf;go_wp2_with (refine ay rfl _ _ _ rfl aL ba rfl [.int .i64 61,.slice none 0 0,.int .i64 0] rfl aZ wG.out (by kernel_rfl) rfl (by intro u hu;simp at hu;rcases hu with rfl|rfl|rfl<;>rfl) ?_;intro w6 hs6;have wK:=FH hs6;clear hs6 wG);refine bodyPost_ret (av rfl _ _ rfl (aJ rfl (aj (wK.out.sat.blk 0 rfl)))) rfl ?_;rw [HE.out];exact⟨none,0,0,D,rfl,PH.le.refl _,RowsF.nil _,wK.out.drop.drop⟩
 | some r =>
  have HE:=FH (show X.get s=(X,⟨0,[r],0⟩) by rw [zN.out,hf]);have yy:=FH (ve wG.out (show RowF D (.slice ra rn rc2) r by have:=AC.out;rw [hf]at this;exact this) (Bj.out r hf));clear hf;go_wp2_with (first|(go_at_call 63;refine yy.out.mono ?_;rintro e2 w2 ⟨a2,n2,c2,D2,rfl,hle,hrw,hs2⟩;obtain⟨D3,hle3,hrw3,hs3⟩:=ql hs2 hrw;have wU:=FH (hle.trans hle3);have xg:=FH hrw3;have wI:=FH hs3;clear hle hrw hs2 hle3 hrw3 hs3 yy wG)|(refine ay rfl _ _ _ rfl aL ba rfl [.int .i64 0,.slice (some ⟨_,0,none⟩) 1 1,.int .i64 0] rfl aZ wI.out (by kernel_rfl) rfl (by intro u hu;simp at hu;rcases hu with rfl|rfl|rfl<;>rfl) ?_;intro w6 hs6;have wK:=FH hs6;clear hs6 wI));refine bodyPost_ret (av rfl _ _ rfl (aJ rfl (aj (wK.out.sat.blk 0 rfl)))) rfl ?_;rw [HE.out];exact⟨_,1,1,D3,rfl,wU.out,xg.out,wK.out.drop.drop⟩
def TxM.save (X:TxM)(s:StmM):TxM×AnsM:=({ X with saves:=X.saves.set s.save.toNat ((X.log.length:Int)+1) },bJ 0)
theorem jJ (o:Nat)(lv:Value)(sv:List Int)(cs:List CurE){k:Nat}(hk:k<sv.length)(n:Int):(aN o lv sv cs).setIfInBounds (2+k) (.int .i64 n)=aN o lv (sv.set k n) cs:=by
 unfold aN;rw [FI,Nat.add_comm 2 k,FJ,FJ,List.set_append,if_pos (by simpa using hk),List.map_set]
theorem mI (o:Nat)(lv:Value)(sv:List Int)(cs:List CurE){k:Nat}{n:Int}(hk:sv[k]?=some n):(aN o lv sv cs)[2+k]?=some (.int .i64 n):=by
 have hlt:=(FO.1 hk).1;unfold aN;rw [List.getElem?_toArray,Nat.add_comm 2 k,List.getElem?_cons_succ,List.getElem?_cons_succ,Gm (by simpa using hlt),Gg,hk]
 rfl
theorem tr {B w:World}{D:PH}{x o k:Nat}{X:TxM}{l:List HP}{e:StmE}{s:StmM}(hs:StmOk D e s)(hi:s.save=(k:Int))(hk:k<4)(h:TxIn B w D x o X l) :
  Calls Tryz.prog 68 #[.pointer (some ⟨x,0,none⟩),.agg e.cells.toArray] w (et B D x o l (X.save s)):=by
 obtain⟨W0,hW0,h2⟩:=ej h e.cells.toArray aZ tSt aL;have xh:=FH hW0;obtain⟨H,hH,hsat⟩:=h2;have HH:=FH hH;obtain⟨la,lc,hlv⟩:=(hsat.front 1 rfl).own_shape;obtain⟨_,c1,cf⟩:=dj hsat;rw [hlv]at c1;have hN0:H.es.length=X.log.length:=hH.log.len;have hNb:X.log.length≤10000:=hH.small;rw [hN0]at c1;have hkl:k<X.saves.length:=by rw [hH.saves];exact hk
 have wS:=FH hsat;have cs:W0.cell? ⟨x,2+k,none⟩=some (.int .i64 (X.saves[k]'hkl)):=by
  have hb:=hsat.blk 0 rfl;simp only [World.cell?,hb];exact mI _ _ _ _ (FP hkl)
 have CS:=FH cs;have xW:=FH (show e.save=(k:Int)from hs.save.trans hi);have zS:=FH (show X.save s=(⟨X.cols,X.tabs,X.log,X.saves.set k ((X.log.length:Int)+1),X.curs⟩,bJ 0) by unfold TxM.save;rw [hi];rfl);have C1:=FH c1;have CF:=FH cf;have DQ:=FH hkl;generalize hN:X.log.length=N at *;have hw1:IntKind.i64.wrap ((N:Int)+1)=(N:Int)+1:=Gr _ (by omega);have hk4:(k:Int)<4:=by omega
 clear h hs hi hW0 hH hsat hlv c1 cf hN0 hN cs;go_enter Tryz.func68,Tryz.ntmps68;go_upto_region 1 with fail
 rw [←xh.out];clear xh;generalize w.heap.size+1=ba at wS ⊢;generalize w.heap.size=bs at wS ⊢;obtain⟨x0,x2,x3,x4,x5,x6,x7,x17,x18,x19⟩:=aO (wS.out.blk 4 rfl);rw [xW.out]at x17;have c1:=C1.out;have cf:=CF.out;have cs:=CS.out;generalize X.saves[k]'hkl=z at cs;have hs1:Sat B D (W0.setCell ⟨x,2+k,none⟩ (.int .i64 ((N:Int)+1))) (txL D x o ⟨X.cols,X.tabs,X.log,X.saves.set k ((N:Int)+1),X.curs⟩ H++(blk ba aZ aL::blk bs e.cells.toArray tSt::l)):=by
  show Sat B D _ (blk x (aN o H.lv (X.saves.set k ((N:Int)+1)) H.cs) tTx::_);rw [←jJ o H.lv X.saves H.cs DQ.out ((N:Int)+1)];exact Sat.set wS.out (2+k) (.int .i64 ((N:Int)+1))
 have wG:=FH (show TxIn B _ D x o ⟨X.cols,X.tabs,X.log,X.saves.set k ((N:Int)+1),X.curs⟩ (blk ba aZ aL::blk bs e.cells.toArray tSt::l)from⟨H,⟨HH.out.log,HH.out.curs,by rw [FV];exact HH.out.saves,HH.out.three,HH.out.small⟩,hs1.drew⟩);clear hs1;clear hkl CS;refine aH [rq 0 12,rq 1 12,rq 2 12,rq 3 12,rq 4 12,rq 5 12,rq 6 12,rq 7 12,rq 8 12,rq 9 12,rq 10 12,rq 11 12,(12,true,0)] ?_;iterate 12 (refine ae rfl rfl fun K hK=>?_;go_simp;apply hK;clear hK K)
 refine af rfl ?_;refine wpList_plain rfl fun K hK=>?_;go_simp;refine hK _ _ ?_;clear hK K;refine wpList_nil ?_;apply And.intro
 ·go_simp
 refine ag ?_;clear c1 cf cs x0 x2 x3 x4 x5 x6 x7 x17 x18 x19 CF C1 wS;generalize (W0.setCell ⟨x,2+k,none⟩ (.int .i64 ((N:Int)+1))).drew=W1 at wG ⊢;go_wp2_with (refine ay rfl _ _ _ rfl aL ba rfl [.int .i64 0,.slice none 0 0,.int .i64 0] rfl aZ wG.out (by kernel_rfl) rfl (by intro u hu;simp at hu;rcases hu with rfl|rfl|rfl<;>rfl) ?_;intro w6 hs6;have wK:=FH hs6;clear hs6 wG);refine bodyPost_ret (av rfl _ _ rfl (aJ rfl (aj (wK.out.sat.blk 0 rfl)))) rfl ?_;rw [zS.out];exact⟨none,0,0,D,rfl,PH.le.refl _,RowsF.nil _,wK.out.drop.drop⟩
end Go.Proofs.YtdobimafhbfkhaaGreat
namespace Go.Proofs.YtdobimafhbfkhaaGreat
set_option linter.unusedSimpArgs false
def dV (m:aq):PL:=m.map fun r=>(au r,RowT.none)
theorem nF (m:aq)(r:List Val):dV (cw m r)=dC (dV m) (au r) RowT.none:=by
 unfold dV cw dC;rw [List.map_append,List.map_cons,List.filter_map,List.filter_map]
 rfl
theorem uo (m:aq)(k:Val):dV (cR m k)=cY (dV m) k:=by
 unfold dV cR cY;rw [List.filter_map]
 rfl
theorem ou (m:aq):(dV m).length=m.length:=FZ _
structure TabI (c:List Bool)(m:aq):Prop where
 sorted:bh (dV m)
 fits:∀r∈m,aX c r=true
 fit:∀r∈m,bG r
theorem TabI.nil (c:List Bool):TabI c []:=⟨List.Pairwise.nil,by simp,by simp⟩
theorem l4 {m:aq}{r q:List Val}(h:q∈cw m r):q=r∨q∈m:=by
 unfold cw at h;rcases F2.1 h with h|h
 ·exact .inr (List.mem_filter.1 h).1
 ·rcases Gl.1 h with h|h
  ·exact .inl h
  ·exact .inr (List.mem_filter.1 h).1
theorem TabI.put {c:List Bool}{m:aq}{r:List Val}(h:TabI c m)(hr:aX c r=true)(hf:bG r):TabI c (cw m r):=by
 refine⟨?_,fun q hq=>?_,fun q hq=>?_⟩
 ·rw [nF];exact iI h.sorted
 ·rcases l4 hq with rfl|hq
  ·exact hr
  ·exact h.fits q hq
 ·rcases l4 hq with rfl|hq
  ·exact hf
  ·exact h.fit q hq
theorem TabI.del {c:List Bool}{m:aq}(h:TabI c m)(k:Val):TabI c (cR m k):=by
 refine⟨?_,fun q hq=>h.fits q (List.mem_filter.1 hq).1,fun q hq=>h.fit q (List.mem_filter.1 hq).1⟩;rw [uo];exact iM h.sorted
theorem cV {m:aq}{k:Val}{r:List Val}(h:aP m k=some r):r∈m∧au r=k:=⟨List.mem_of_find?_eq_some h,by have:=List.find?_some h;simpa using this⟩
theorem cO {c:List Bool}{r:List Val}(h:aX c r=true):∃k,r[0]?=some k∧au r=k∧am k=true∧k.t=c.getD 0 false:=by
 unfold aX dX at h;simp only [Bool.and_eq_true,decide_eq_true_eq]at h;obtain⟨⟨h1,h2⟩,h3⟩:=h;unfold cj at h1;simp only [Bool.and_eq_true,decide_eq_true_eq]at h1;cases r with
 | nil=>simp only [List.length_nil]at h2;omega
 | cons a r =>
  cases c with
  | nil=>simp only [List.length_nil]at h1;omega
  | cons b c =>
   rw [List.zip_cons_cons,List.length_cons,List.take_succ_cons,List.all_cons]at h3;simp only [Bool.and_eq_true,decide_eq_true_eq]at h3;exact⟨a,rfl,rfl,h3.1.2,h3.1.1⟩
theorem r7 {m:aq}{k:Val}(hm:∀r∈m,am (au r)=true)(hk:am k=true):cL (dV m) k=(aP m k).isSome:=by
 unfold cL dV aP;rw [List.any_map,List.isSome_find?,Bool.eq_iff_iff,List.any_eq_true,List.any_eq_true];refine⟨fun ⟨r,hr,h⟩=>⟨r,hr,?_⟩,fun ⟨r,hr,h⟩=>⟨r,hr,?_⟩⟩
 ·exact F5 (jm (hm r hr) hk (of_decide_eq_true h))
 ·have e:au r=k:=of_decide_eq_true h
  exact F5 (show ai (au r) k=0 by rw [e];exact dd k)
theorem TabI.keys {c:List Bool}{m:aq}(h:TabI c m):∀r∈m,am (au r)=true:=fun r hr=>by
 obtain⟨k,_,e,hk,_⟩:=cO (h.fits r hr);rw [e];exact hk
theorem mJ {c:List Bool}{m:aq}(h:TabI c m){r:List Val}(hr:aX c r=true):(cw m r).length=m.length+(if (aP m (au r)).isSome then 0 else 1):=by
 have hk:am (au r)=true:=by obtain⟨k,_,e,hk,_⟩:=cO hr;rw [e];exact hk
 rw [←ou,nF,mT h.sorted,ou,r7 h.keys hk]
theorem kF {c:List Bool}{m:aq}(h:TabI c m){r:List Val}(hr:aX c r=true)(hf:(aP m (au r)).isSome=true):(cw m r).length=m.length:=by
 rw [mJ h hr,hf];rfl
theorem lV {c:List Bool}{r:List Val}:aX c r=true↔cj c=true∧r.length=c.length∧∀(i:Nat) (x:Val) (b:Bool),r[i]?=some x→c[i]?=some b→x.t=b∧am x=true:=by
 unfold aX dX;rw [FS (by rw [List.length_zip];exact Nat.min_le_left _ _),Bool.and_eq_true,Bool.and_eq_true,decide_eq_true_eq,List.all_eq_true,and_assoc];refine and_congr_right fun _=>and_congr_right fun hl=>⟨fun h i x b hx hb=>?_,fun h p hp=>?_⟩
 ·have hz:(r.zip c)[i]?=some (x,b):=by rw [List.getElem?_zip_eq_some];exact⟨hx,hb⟩
  have:=h _ (FQ hz)
  simpa using this
 ·obtain⟨i,hi⟩:=List.mem_iff_getElem?.1 hp
  rw [List.getElem?_zip_eq_some]at hi;have:=h i p.1 p.2 hi.1 hi.2
  simpa using this
theorem wk {c:List Bool}{i:Int}(h:bK c i=1):∃k:Nat,i=(k:Int)∧c[k]?=some false:=by
 unfold bK at h;split at h
 ·cases h
 ·next hn =>
  have hlt:i.toNat<c.length:=by omega
  refine⟨i.toNat,by omega,?_⟩;rw [FP hlt];rw [FW,FP hlt,Option.getD_some]at h;cases hc:c[i.toNat]
  ·rfl
  ·rw [hc]at h;cases h
theorem vY {c:List Bool}{i:Int}(h:bK c i=2):∃k:Nat,i=(k:Int)∧c[k]?=some true:=by
 unfold bK at h;split at h
 ·cases h
 ·next hn =>
  have hlt:i.toNat<c.length:=by omega
  refine⟨i.toNat,by omega,?_⟩;rw [FP hlt];rw [FW,FP hlt,Option.getD_some]at h;cases hc:c[i.toNat]
  ·rw [hc]at h;cases h
  ·rfl
theorem nQ {c:List Bool}{i:Int}(h:bK c i≠0):∃(k:Nat) (b:Bool),i=(k:Int)∧c[k]?=some b∧bK c i=if b then 2 else 1:=by
 rcases gJ c i with h0|h0|h0
 ·exact absurd h0 h
 ·obtain⟨k,e,hk⟩:=wk h0;exact⟨k,false,e,hk,h0⟩
 ·obtain⟨k,e,hk⟩:=vY h0;exact⟨k,true,e,hk,h0⟩
theorem tE (n:Int):am (eu n)=true:=by
 unfold eu dB am;simp
theorem toV_may {c:List Bool}{r:List Val}{s:SetM}(hf:aX c r=true)(hm:bH c s=true):∃(k:Nat) (b:Bool),s.col=(k:Int)∧1≤k∧c[k]?=some b∧(toV r s).t=b∧am (toV r s)=true:=by
 obtain⟨_,hl,hfit⟩:=lV.1 hf;unfold bH at hm;split at hm
 ·cases hm
 next hn =>
 have h0:bK c s.col≠0:=fun e=>hn (.inr e);have h1:¬s.col<1:=fun e=>hn (.inl e);obtain⟨k,b,e,hb,hkd⟩:=nQ h0;refine⟨k,b,e,by omega,hb,?_⟩;unfold toV;by_cases o1:s.op=1
 ·rw [if_pos o1]at hm ⊢
  simp only [Bool.and_eq_true,decide_eq_true_eq]at hm;refine⟨?_,hm.1⟩;rw [hm.2,hkd];cases b<;>decide
 rw [if_neg o1]at hm ⊢;by_cases o2:s.op=2
 ·rw [if_pos o2]at hm ⊢
  have hm2:bK c s.frm=bK c s.col:=of_decide_eq_true hm;obtain⟨j,b',e',hb',hkd'⟩:=nQ (show bK c s.frm≠0 by rw [hm2];exact h0);have hbb:b'=b:=by rw [hm2,hkd]at hkd';cases b<;>cases b'<;>first|rfl|cases hkd'
  have hjl:j<r.length:=by rw [hl];exact(FO.1 hb').1
  have hx:r[j]?=some r[j]:=FP hjl;rw [e',ce hx];have:=hfit j _ b' hx hb';rw [hbb]at this;exact this
 rw [if_neg o2]at hm ⊢;have hk1:bK c s.col=1:=by
  split at hm
  ·simp only [Bool.and_eq_true,decide_eq_true_eq]at hm;exact hm.1.1.1
  ·split at hm
   ·simp only [Bool.and_eq_true,decide_eq_true_eq]at hm;exact hm.1.1
   ·cases hm
 have hbf:b=false:=by rw [hk1]at hkd;cases b<;>first|rfl|cases hkd
 rw [hbf];exact⟨rfl,tE _⟩
theorem uE {c:List Bool}{r:List Val}{k:Nat}{b:Bool}{v:Val}(h:aX c r=true)(hb:c[k]?=some b)(ht:v.t=b)(hv:am v=true):aX c (r.set k v)=true:=by
 obtain⟨h1,h2,h3⟩:=lV.1 h;refine lV.2 ⟨h1,by rw [FV];exact h2,fun i x b' hx hb'=>?_⟩;by_cases hi:k=i
 ·subst hi
  have hlt:k<r.length:=by have:=(FO.1 hx).1;rwa [FV]at this
  rw [FX hlt]at hx;cases hx;rw [hb]at hb';cases hb';exact⟨ht,hv⟩
 ·rw [F8 hi]at hx
  exact h3 i x b' hx hb'
theorem nZ {c:List Bool}{r:List Val}(hf:aX c r=true)(hfit:bG r):∀ {l:List SetM} {out res:List Val},(∀s∈l,bH c s=true)→(∀s∈l,s.v.fit)→aX c out=true→bG out→fI r l out=some res→aX c res=true∧bG res∧au res=au out
 | [],out,res,_,_,ho,hof,h=>by
  have:out=res:=Option.some.inj h;subst this;exact⟨ho,hof,rfl⟩
 | s::l,out,res,hm,hv,ho,hof,h=>by
  have h':(match toS r s with|none=>none|some v=>fI r l (out.set s.col.toNat v))=some res:=h;rw [mh]at h';cases hb:toB r s with
  | false=>rw [hb]at h';cases h'
  | true =>
   rw [hb]at h';obtain⟨k,b,e,hk,hcb,ht,hr⟩:=toV_may hf (hm s (Gc ..));have h2:fI r l (out.set k (toV r s))=some res:=by rw [e]at h';exact h'
   obtain⟨g1,g2,g3⟩:=nZ hf hfit (fun q hq=>hm q (F4 _ hq)) (fun q hq=>hv q (F4 _ hq)) (uE ho hcb ht hr) (pE hof (pg hfit (hv s (Gc ..)))) h2;refine⟨g1,g2,g3.trans ?_⟩;unfold au;cases out with
   | nil=>rfl
   | cons a out=>cases k with
    | zero=>omega
    | succ k=>rfl
theorem kw {c:List Bool}{r:List Val}{l:List SetM}(hf:aX c r=true)(hfit:bG r)(hv:∀s∈l,s.v.fit)(h:(cM c r l).2=0):aX c (cM c r l).1=true∧bG (cM c r l).1∧au (cM c r l).1=au r:=by
 cases hs:cG c l with
 | false=>rw [wu hf hs]at h;cases h
 | true =>
  cases hu:fI r l r with
  | none=>rw [oF hf hs hu]at h;cases h
  | some o =>
   rw [pB hf hs hu];exact nZ hf hfit (gg hs).2 hv hf hfit hu
end Go.Proofs.YtdobimafhbfkhaaGreat
namespace Go.Proofs.YtdobimafhbfkhaaGreat
open Go.ChangeShapes Go.WideShapes Go.ChangeAt Go.RowKit
set_option maxRecDepth 100000
set_option linter.unusedSimpArgs false
section
variable {B w w' : World} {D D' : PH} {x o i : Nat} {X : TxM} {H : TxH} {l : List HP} {m : aq} {c : List Bool}
theorem oq (h:TxIn B w D x o X l)(hc:X.cols[i]?=some c):∃g og cap cv,w.cell? ⟨x,0,none⟩=some (.pointer (some ⟨o,0,none⟩))∧w.cell? ⟨o,0,none⟩=some (.slice (some ⟨g,og,none⟩) X.cols.length cap)∧w.cell? ⟨g,og+i,none⟩=some cv∧vT D cv c:=by
 obtain⟨H,hH,hs⟩:=h;obtain⟨c0,_,_⟩:=dj hs;obtain⟨y,hy,hs2⟩:=gB (jd hs);obtain⟨d0,_⟩:=dJ hs2;obtain⟨us,h1,h2,h3,h4⟩:=hy.1;have hlt:=(FO.1 hc).1;have h1':us.length=X.cols.length:=h1;obtain⟨u,hu⟩:∃u,us[i]?=some u:=⟨us[i]'(by omega),FP _⟩;obtain⟨_,_,ao,cap,hv,_,_,_,hcell⟩:=h3.rd hs2;have hv2:y.tv = .slice ao X.cols.length cap:=hv;rw [hv2]at d0;rcases hcell with h0|⟨g,og,hg,hcc⟩
 ·have:X.cols.length=0:=h0
  omega
 ·subst hg
  exact⟨g,og,cap,u,c0,d0,hcc i u hu,h4 i u c hu hc⟩
theorem th (h:TxIn B w D x o X l){cv rv sv:Value}{r:List Val}{sets:List SetM}(hc:vT D cv c)(hr:RowF D rv r)(hs:SetsF D sv sets) :
  Calls Tryz.prog 113 #[.agg #[cv],rv,sv] w fun e w'=>∃a n cc D',e = .returned (.tuple #[.slice a n cc,.int .i64 (cM c r sets).2])∧PH.le D D'∧RowF D' (.slice a n cc) (cM c r sets).1∧TxIn B w' D' x o X l:=by
 obtain⟨H,hH,hsat⟩:=h;refine(ue hc hr hs hsat).mono ?_;rintro e w' ⟨v',rfl,hf,hs'⟩;obtain⟨D',hle,hrd,hs2⟩:=hs'.own_give;obtain⟨a,cc,rfl⟩:=hrd.shape;exact⟨a,_,cc,D',rfl,hle,⟨hrd,hf⟩,lq hH hle hs2⟩
end
def FreshD (D:PH)(hs:List Value)(fr:aq):Prop:=All2 (fun h r=>RowF D h r) hs fr
theorem FreshD.mono {D D':PH}(le:PH.le D D'){hs:List Value}{fr:aq}(h:FreshD D hs fr):FreshD D' hs fr:=h.imp (fun _ _ h=>h.mono le)
theorem it {c:List Bool}{sets:List SetM}:∀ {l:aq} {out:aq} (n:Nat) {e:Int},e≠0→cB c sets (l.take n) out=([],e)→cB c sets l out=([],e)
 | [],out,n,e,he,h=>by simpa using h
 | r::l,out,0,e,he,h=>by
  have h':(out,(0:Int))=([],e):=h;exact absurd (Prod.mk.inj h').2.symm he
 | r::l,out,n+1,e,he,h=>by
  have h':(if (cM c r sets).2=0 then cB c sets (l.take n) (out ++ [(cM c r sets).1])else ([],(cM c r sets).2))=([],e):=h
  show(if (cM c r sets).2=0 then cB c sets l (out ++ [(cM c r sets).1])else ([],(cM c r sets).2))=([],e);split at h'
  ·next h0=>rw [if_pos h0];exact it n he h'
  ·next h0=>rw [if_neg h0];exact h'
theorem eW {c:List Bool}{sets:List SetM}(r:List Val):∀ {l:aq} {out fr:aq},cB c sets l out=(fr,0)→cB c sets (l ++ [r]) out=if (cM c r sets).2=0 then (fr ++ [(cM c r sets).1],0)else ([],(cM c r sets).2)
 | [],out,fr,h=>by
  have h':(out,(0:Int))=(fr,0):=h;rw [←(Prod.mk.inj h').1]
  rfl
 | q::l,out,fr,h=>by
  have h':(if (cM c q sets).2=0 then cB c sets l (out ++ [(cM c q sets).1])else ([],(cM c q sets).2))=(fr,0):=h
  show(if (cM c q sets).2=0 then cB c sets (l ++ [r]) (out ++ [(cM c q sets).1])else ([],(cM c q sets).2))=_;split at h'
  ·next h0=>rw [if_pos h0];exact eW r h'
  ·next h0=>exact absurd (Prod.mk.inj h').2 h0
end Go.Proofs.YtdobimafhbfkhaaGreat
namespace Go.Proofs.YtdobimafhbfkhaaGreat
set_option linter.unusedSimpArgs false
theorem eD {m:aq}{k:Val}:(aP m k).isSome=true↔∃q∈m,au q=k:=by
 unfold aP;rw [List.isSome_find?,List.any_eq_true];exact⟨fun ⟨q,h1,h2⟩=>⟨q,h1,of_decide_eq_true h2⟩,fun ⟨q,h1,h2⟩=>⟨q,h1,F5 h2⟩⟩
theorem qi {c:List Bool}{m:aq}(h:TabI c m){r:List Val}(hr:aX c r=true)(hf:(aP m (au r)).isSome=true)(k:Val):(aP (cw m r) k).isSome=(aP m k).isSome:=by
 have hk:am (au r)=true:=by obtain⟨k,_,e,hk,_⟩:=cO hr;rw [e];exact hk
 rw [Bool.eq_iff_iff,eD,eD]
 constructor
 ·rintro⟨q,hq,e⟩
  rcases l4 hq with rfl|hq
  ·obtain⟨p,hp,e2⟩:=eD.1 hf
   exact⟨p,hp,e2.trans e⟩
  ·exact⟨q,hq,e⟩
 ·rintro⟨q,hq,e⟩
  by_cases h0:ai (au q) (au r)=0
  ·refine⟨r,?_,?_⟩
   ·unfold cw;exact List.mem_append_right _ (Gc ..)
   ·rw [←e];exact(jm (h.keys q hq) hk h0).symm
  ·refine⟨q,?_,e⟩
   unfold cw;rcases Int.lt_or_lt_of_ne h0 with h1|h1
   ·exact List.mem_append_left _ (List.mem_filter.2 ⟨hq,F5 h1⟩)
   ·exact List.mem_append_right _ (F4 _ (List.mem_filter.2 ⟨hq,F5 h1⟩))
theorem cE {X:TxM}{i:Nat}{m:aq}(h:X.tabs[i]?=some m):X.tab (i:Int)=m:=by
 unfold TxM.tab;rw [F6,FW,h];rfl
structure PutsI (X Y:TxM)(i:Nat)(c:List Bool)(m m':aq)(n:Nat):Prop where
 tab:Y.tabs[i]?=some m'
 well:TabI c m'
 len:m'.length=m.length
 keys:∀k,(aP m' k).isSome=(aP m k).isSome
 log:Y.log.length=X.log.length+n
 cols:Y.cols=X.cols
theorem PutsI.put {X Y:TxM}{i:Nat}{c:List Bool}{m m':aq}{n:Nat}(h:PutsI X Y i c m m' n){r:List Val}(hr:aX c r=true)(hfit:bG r)(hf:(aP m (au r)).isSome=true):PutsI X (Y.put i r) i c m (cw m' r) (n+1):=by
 have hf':(aP m' (au r)).isSome=true:=by rw [h.keys];exact hf
 have hlt:=(FO.1 h.tab).1;refine⟨?_,h.well.put hr hfit,?_,fun k=>?_,?_,h.cols⟩
 ·show(Y.tabs.set (i:Int).toNat (cw (Y.tab i) r))[i]?=_
  rw [F6,FX hlt,cE h.tab]
 ·rw [kF h.well hr hf',h.len]
 ·rw [qi h.well hr hf',h.keys]
 ·show(Y.log ++ [_]).length=_
  rw [FR,h.log];rfl
theorem qt {X:TxM}{i:Nat}{c:List Bool}{m:aq}(hm:X.tabs[i]?=some m)(hI:TabI c m):∀(n:Nat) (fr:aq),(∀q∈fr,aX c q=true∧(aP m (au q)).isSome=true)→(∀q∈fr,bG q)→n≤fr.length→∃m',PutsI X ((fr.take n).foldl (fun y r=>y.put i r) X) i c m m' n
 | 0,_,_,_,_=>⟨m,hm,hI,rfl,fun _=>rfl,rfl,rfl⟩
 | n+1,fr,hf,hfit,hn=>by
  obtain⟨m',h⟩:=qt hm hI n fr hf hfit (by omega);have hr:fr[n]?=some (fr[n]'(by omega)):=FP _;have hmem:=FQ hr;refine⟨cw m' (fr[n]'(by omega)),?_⟩;rw [F3,hr];simp only [Option.toList_some,List.foldl_append,List.foldl_cons,List.foldl_nil];exact h.put (hf _ hmem).1 (hfit _ hmem) (hf _ hmem).2
end Go.Proofs.YtdobimafhbfkhaaGreat
