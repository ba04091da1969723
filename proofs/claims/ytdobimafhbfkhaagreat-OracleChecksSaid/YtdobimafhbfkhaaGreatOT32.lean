/- Joined texts: What is read of a transaction; answers. A row is dropped by its key (txn.drop). A statement in memory. A row is put in; one is dropped (txn.insert, txn.remove). Rows that are made beside a transaction, and given. A row is read by its key; one is dropped (txn.get, txn.remove). A savepoint is set (txn.save). Tables as data: sorted, with rows that fit. Updates as data: a row that is changed fits, and keeps its key. What is read of a transaction's tables; updates beside it. What many rows that are laid come to, as data. -/
import Derived.Test.YtdobimafhbfkhaaGreatOT31
import Derived.Test.YtdobimafhbfkhaaGreatOT25
set_option maxHeartbeats 64000000
namespace Go.Proofs.YtdobimafhbfkhaaGreat
open Go.ChangeShapes Go.WideShapes Go.ChangeAt Go.RowKit
set_option maxRecDepth 100000
set_option linter.unusedSimpArgs false
abbrev bl : TypeId:=61
abbrev aZ : Array Value:=#[.int .i64 0,.slice none 0 0,.int .i64 0]
def RowsF (D:PH)(v:Value)(rs:List (List Val)):Prop:=RowsAt D v rs∧∀r∈rs,bR r
theorem RowsF.mono {D D':PH}(le:PH.le D D'){v:Value}{rs:List (List Val)}(h:RowsF D v rs):RowsF D' v rs:=⟨h.1.mono le,h.2⟩
theorem RowsF.nil (D:PH):RowsF D (.slice none 0 0) []:=⟨⟨[],rfl,by simp,RdP.nil _ _,by simp⟩,by simp⟩
def d4 (B:World)(D:PH)(x o:Nat)(l:List HP)(p:TxM×AnsM)(e:Ending)(w':World):Prop:=∃(ra:Option Addr) (rn rc:Nat) (D':PH),e = .returned (.agg #[.int .i64 p.2.e,.slice ra rn rc,.int .i64 p.2.n])∧PH.le D D'∧RowsF D' (.slice ra rn rc) p.2.rows∧TxIn B w' D' x o p.1 l
theorem bF {w:World}{g o:Nat}{cs:List Value}(hl:cs.length=3)(h:w.rangeAt g o cs):(loadVar bl ⟨g,o,none⟩).run Tryz.prog w = .ok (.agg cs.toArray) w:=by
 match cs,hl with
 | [a,b,c],_=>exact run_loadVar_mid w g o _ _ _ h Tryz.underlying61 rfl (by kernel_rfl)
section
variable {B w w' : World} {D : PH} {x o i : Nat} {X : TxM} {l : List HP} {m : ay}
theorem TxIn.sat (h:TxIn B w D x o X l):Sat B D w l:=by
 obtain⟨H,_,hs⟩:=h
 exact hs.drop.drop.drop
theorem TxIn.kept (h:TxIn B w D x o X l)(k:Kept (fun _=>False) w w'):TxIn B w' D x o X l:=by
 obtain⟨H,h1,hs⟩:=h
 exact⟨H,h1,hs.kept k⟩
theorem TxIn.alloc (h:TxIn B w D x o X l)(cs:Array Value)(t:TypeId):TxIn B (w.alloc (.cells cs t)) D x o X (blk w.heap.size cs t::l):=by
 obtain⟨H,h1,hs⟩:=h
 exact⟨H,h1,(hs.alloc cs t).perm (List.perm_middle (l₁:=txL D x o X H) (a:=blk w.heap.size cs t) (l₂:=l)).symm⟩
theorem TxIn.perm {l':List HP}(h:TxIn B w D x o X l)(p:List.Perm l l'):TxIn B w D x o X l':=by
 obtain⟨H,h1,hs⟩:=h
 exact⟨H,h1,hs.perm (p.append_left _)⟩
theorem TxIn.drop {a:HP}(h:TxIn B w D x o X (a::l)):TxIn B w D x o X l:=by
 obtain⟨H,h1,hs⟩:=h
 exact⟨H,h1,(hs.perm (List.perm_middle (l₁:=txL D x o X H) (a:=a) (l₂:=l))).drop⟩
theorem TxIn.step {l':List HP}(h:TxIn B w D x o X l)(f:∀L,Sat B D w (l++L)→Sat B D w' (l'++L)):TxIn B w' D x o X l':=by
 obtain⟨H,h1,hs⟩:=h
 exact⟨H,h1,(f _ (hs.perm List.perm_append_comm)).perm List.perm_append_comm⟩
theorem ei (h:TxIn B w D x o X l)(hm:X.tabs[i]?=some m):∃t g og pc,w.cell? ⟨x,0,none⟩=some (.pointer (some ⟨o,0,none⟩))∧w.cell? ⟨o,1,none⟩=some (.slice (some ⟨g,og,none⟩) X.tabs.length pc)∧w.cell? ⟨g,og+i,none⟩=some (.pointer (some ⟨t,0,none⟩)) ∧
  ∀k:Val,Calls Tryz.prog 93 #[.pointer (some ⟨t,0,none⟩),k.v] w.drew fun e w'=>∃ra rn rc,e = .returned (.tuple #[.slice ra rn rc,.bool (aY m k).isSome])∧RowF D (.slice ra rn rc) ((aY m k).getD [])∧Kept (fun _=>False) w w':=by
 obtain⟨H,hH,hs⟩:=h
 obtain⟨c0,_,_⟩:=cW hs
 obtain⟨y,hy,hs2⟩:=fS (ik hs)
 obtain⟨_,d1⟩:=dy hs2
 obtain⟨t,g,og,pc,ht,hpv,hpc⟩:=gI hy hm hs2
 rw [hpv]at d1
 refine⟨t,g,og,pc,c0,d1,hpc,fun k=>(pP k hm ht hs2.drew).mono ?_⟩
 rintro e w' ⟨v,rfl,hr,hk⟩
 obtain⟨ra,rn,rcc,rfl⟩:∃a n c,v = .slice a n c:=by obtain⟨_,_,ao,rc,h,_⟩:=hr.1;exact⟨ao,_,rc,h⟩
 exact⟨ra,rn,rcc,rfl,hr,(Kept.refl (fun _=>False) w).drew.trans hk (fun _ h=>h.elim)⟩
end
theorem az {P:Program}{B w:World}{D:PH}{x o:Nat}{X:TxM}{l:List HP}{ops:Array Oper}{rest:List Oper}{oo:Oper}{a:Act}{Q:Exit→Act→World→Prop}(hgd:oo.guard=none)(ty:TypeId)(xo yo:Operand)(ho:oo.op = .store ty xo yo)(e:TypeId)(g:Nat)(hx:a.eval xo = .pointer (some ⟨g,0,none⟩))(cs:List Value)(hy:a.eval yo = .agg cs.toArray)(cur:Array Value)(hs:TxIn B w D x o X (blk g cur e::l))
  (hi:(P.info? ty).map (·.size)=some cs.length) (hfit:cur.size=cs.length) (h1:∀u∈cs,u.oneCell'=true)
  (h:∀w',TxIn B w' D x o X (blk g cs.toArray e::l)→wpList P ops Q rest (a.put oo.dst undef) w'):wpList P ops Q (oo::rest) a w:=by
 obtain⟨H,hH,hs⟩:=hs
 refine br hgd ty xo yo ho e g hx cs hy cur (hs.perm (List.perm_middle (l₁:=txL D x o X H) (a:=blk g cur e) (l₂:=l))) hi hfit h1 (fun w' hs'=>h w' ?_)
 exact⟨H,hH,hs'.perm (List.perm_middle (l₁:=txL D x o X H) (a:=blk g cs.toArray e) (l₂:=l)).symm⟩
theorem ml {B w:World}{D:PH}{x o i:Nat}{X:TxM}{l:List HP}{m:ay}{k:Val}(hm:X.tabs[i]?=some m)(hk:am k=true)(hb:X.log.length+1≤10000)(h:TxIn B w D x o X l) :
  Calls Tryz.prog 96 #[.pointer (some ⟨x,0,none⟩),.int .i64 i,k.v] w (d4 B D x o l (X.drop i k)):=by
 obtain⟨W0,hW0,h0⟩:∃W,W=(w.alloc (.cells #[.bool k.t,.int .i64 k.n,.string k.s] tV)).alloc (.cells aZ bl)∧TxIn B W D x o X (blk (w.heap.size+1) aZ bl::blk w.heap.size k.cells.toArray tV::l):=by
  have h1:=(h.alloc k.cells.toArray tV).alloc aZ bl
  rw [World.size_alloc]at h1
  exact⟨_,rfl,h1⟩
 have uI:=CM hW0
 obtain⟨t,g,og,pc,c0,d1,hpc,hget⟩:=ei h0 hm
 have HG:=CM (hget k)
 have hlt:(i:Int)<(X.tabs.length:Int):=by have:=(List.getElem?_eq_some_iff.1 hm).1;omega
 have uv:=CM h0
 have HM:=CM hm
 have HK:=CM hk
 have HB:=CM hb
 have C0:=CM c0
 have D1:=CM d1
 have PC:=CM hpc
 generalize hTN:X.tabs.length=TN at *
 clear h hm hk hb hW0 h0 c0 d1 hpc hget hTN
 go_enter Tryz.func96,Tryz.ntmps96
 go_upto_region 1 with fail
 rw [←uI.out]
 clear uI
 generalize w.heap.size+1=ba at uv ⊢
 generalize w.heap.size=bk at uv ⊢
 obtain⟨x0,x1,x2,xf⟩:=aT (show W0.heap[bk]?=some (.cells #[.bool k.t,.int .i64 k.n,.string k.s] tV (0,0))from uv.out.sat.blk 1 rfl)
 have c0:=C0.out
 have d1:=D1.out
 have hpc:=PC.out
 refine af [(0,false,11),(1,false,11),(2,false,11),(3,false,11),(4,false,11),(5,false,11),(6,false,11),(7,false,11),(8,false,11),(9,false,11),(10,false,11),(11,true,0),(12,false,999),(13,false,999),(14,false,999),(15,false,999),(16,false,999)] (by kernel_rfl) (by kernel_rfl) ?_
 iterate 11 (refine ae rfl rfl (fun K hK=>?_);go_simp;refine hK _ ?_;clear hK K)
 refine ag rfl ?_
 refine au rfl (fun K hK=>?_)
 go_simp
 refine HG.out.mono ?_
 rintro e1 w1 ⟨ra,rn,rc,rfl,-,hk1⟩
 have uk:=CM (uv.out.kept hk1)
 clear hk1 uv HG c0 d1 hpc x0 x1 x2 xf C0 D1 PC
 refine hK _ _ ?_
 clear hK K
 refine wpList_nil ?_
 refine And.intro ?_ ?_
 ·go_simp
 iterate 5 (refine ae rfl rfl (fun K hK=>?_);go_simp;refine hK _ ?_;clear hK K)
 refine ah ?_
 obtain⟨X',hX'⟩:∃X',X.drop i k=X':=⟨_,rfl⟩
 have xF:=CM hX'
 cases hf:aY m k with
 | none =>
  have HE:=CM (show X.drop (i:Int) k=(X,cD 61) by unfold TxM.drop;rw [fQ HM.out,hf])
  go_wp2_with (refine az rfl _ _ _ rfl bl ba rfl [.int .i64 61,.slice none 0 0,.int .i64 0] rfl aZ uk.out (by kernel_rfl) rfl (by intro u hu;simp at hu;rcases hu with rfl|rfl|rfl<;>rfl) ?_;intro w6 hs6;have uu:=CM hs6;clear hs6 uk)
  refine bodyPost_ret (aR rfl _ _ rfl (bF rfl (aA (uu.out.sat.blk 0 rfl)))) rfl ?_
  rw [HE.out]
  exact⟨none,0,0,D,rfl,PH.le.refl _,RowsF.nil _,uu.out.drop.drop⟩
 | some r =>
  have HE:=CM (show X.drop (i:Int) k=(X.out i k,jt 1) by unfold TxM.drop;rw [fQ HM.out,hf])
  obtain⟨x0,x1,x2,xf⟩:=aT (show w1.heap[bk]?=some (.cells #[.bool k.t,.int .i64 k.n,.string k.s] tV (0,0))from uk.out.sat.blk 1 rfl)
  have HO:=CM (oG HM.out HK.out HB.out uk.out)
  go_wp2_with (first|(go_at_call 98;refine HO.out.mono ?_;rintro e2 w2 ⟨rfl,hs2⟩;have ur:=CM hs2;clear hs2 HO uk x0 x1 x2 xf)|(refine az rfl _ _ _ rfl bl ba rfl [.int .i64 0,.slice none 0 0,.int .i64 1] rfl aZ ur.out (by kernel_rfl) rfl (by intro u hu;simp at hu;rcases hu with rfl|rfl|rfl<;>rfl) ?_;intro w6 hs6;have uu:=CM hs6;clear hs6 ur))
  refine bodyPost_ret (aR rfl _ _ rfl (bF rfl (aA (uu.out.sat.blk 0 rfl)))) rfl ?_
  rw [HE.out]
  exact⟨none,0,0,D,rfl,PH.le.refl _,RowsF.nil _,uu.out.drop.drop⟩
abbrev tSt : TypeId:=32
structure StmE where
 kind:Int
 level:Int
 table:Int
 key:Val
 row:VT
 sets:VT
 pe:PredE
 save:Int
 cursor:Int
 change:Bool
def StmE.cells (s:StmE):List Value:=[.int .i64 s.kind,.int .i64 s.level,.int .i64 s.table,.bool s.key.t,.int .i64 s.key.n,.string s.key.s,s.row.v,s.sets.v,
 .int .i64 s.pe.op,.int .i64 s.pe.col,.bool s.pe.v.t,.int .i64 s.pe.v.n,.string s.pe.v.s,.bool s.pe.w.t,.int .i64 s.pe.w.n,.string s.pe.w.s,.slice s.pe.la s.pe.ln s.pe.lc,.int .i64 s.save,.int .i64 s.cursor,.bool s.change]
theorem StmE.len (s:StmE):s.cells.length=20:=rfl
theorem StmE.one (s:StmE):∀u∈s.cells,u.oneCell'=true:=by
 intro u hu
 simp [StmE.cells]at hu
 rcases hu with rfl|rfl|rfl|rfl|rfl|rfl|rfl|rfl|rfl|rfl|rfl|rfl|rfl|rfl|rfl|rfl|rfl|rfl|rfl|rfl<;>rfl
@[go_sem] theorem sizeStm (x:StmE):x.cells.toArray.size=20:=rfl
theorem eC {w:World}{g o:Nat}{x:StmE}(h:w.rangeAt g o x.cells):(loadVar tSt ⟨g,o,none⟩).run Tryz.prog w = .ok (.agg x.cells.toArray) w:=run_loadVar_mid w g o _ _ _ h Tryz.underlying32 rfl (by kernel_rfl)
structure StmOk (D:PH)(e:StmE)(s:StmM):Prop where
 kind:e.kind=s.kind
 table:e.table=s.table
 key:e.key=s.key
 row:RowF D e.row.v s.row
 sets:SetsF D e.sets.v s.sets
 pred:e.pe.p=s.pred
 subs:PredsAt D (.slice e.pe.la e.pe.ln e.pe.lc) e.pe.subs
 save:e.save=s.save
 cursor:e.cursor=s.cursor
 change:e.change=s.change
 fit:s.key.fit
theorem StmOk.mono {D D':PH}(le:PH.le D D'){e:StmE}{s:StmM}(h:StmOk D e s):StmOk D' e s :=
 ⟨h.kind,h.table,h.key,h.row.mono le,h.sets.mono le,h.pred,h.subs.mono le,h.save,h.cursor,h.change,h.fit⟩
theorem bj {w:World}{b:Nat}{x:StmE}{t:TypeId}{fr:Nat×Nat}(h:w.heap[b]?=some (.cells x.cells.toArray t fr)) :
  w.cell? ⟨b,0,none⟩=some (.int .i64 x.kind)∧w.cell? ⟨b,2,none⟩=some (.int .i64 x.table)∧w.cell? ⟨b,3,none⟩=some (.bool x.key.t)∧w.cell? ⟨b,4,none⟩=some (.int .i64 x.key.n)∧w.cell? ⟨b,5,none⟩=some (.string x.key.s) ∧
   w.cell? ⟨b,6,none⟩=some x.row.v∧w.cell? ⟨b,7,none⟩=some x.sets.v∧w.cell? ⟨b,17,none⟩=some (.int .i64 x.save)∧w.cell? ⟨b,18,none⟩=some (.int .i64 x.cursor)∧w.cell? ⟨b,19,none⟩=some (.bool x.change):=by
 refine⟨?_,?_,?_,?_,?_,?_,?_,?_,?_,?_⟩<;>simp [World.cell?,h,StmE.cells]
theorem dN {B w:World}{D:PH}{x o:Nat}{X:TxM}{l:List HP}(h:TxIn B w D x o X l)(c1 c2:Array Value)(t1 t2:TypeId):∃W,W=(w.alloc (.cells c1 t1)).alloc (.cells c2 t2)∧TxIn B W D x o X (blk (w.heap.size+1) c2 t2::blk w.heap.size c1 t1::l):=by
 have h1:=(h.alloc c1 t1).alloc c2 t2
 rw [World.size_alloc]at h1
 exact⟨_,rfl,h1⟩
def TxM.insert (X:TxM)(s:StmM):TxM×AnsM:=if (aY (X.tab s.table) (aJ s.row)).isSome then (X,cD 60)else (X.put s.table s.row,jt 1)
theorem stm_row {D:PH}{e:StmE}{s:StmM}{k:Val}(hs:StmOk D e s)(h0:s.row[0]?=some k):∃rg rog rc,e.row=⟨some ⟨rg,rog,none⟩,s.row.length,rc⟩:=by
 have hp:=(List.getElem?_eq_some_iff.1 h0).1
 obtain⟨_,_,ao,rc,hv,_,_,_,hc⟩:=hs.row.1
 rcases hc with h|⟨g,og,hg,_⟩
 ·omega
 ·refine⟨g,og,rc,?_⟩
  obtain⟨⟨ro,rn,rcc⟩,hr⟩:∃r:VT,e.row=r:=⟨_,rfl⟩
  rw [hr]at hv ⊢
  have hv2:Value.slice ro rn rcc = .slice ao s.row.length rc:=hv
  cases hv2
  rw [hg]
theorem nR {B w:World}{D:PH}{x o i:Nat}{X:TxM}{l:List HP}{m:ay}{e:StmE}{s:StmM}{k:Val}(hs:StmOk D e s)(hi:s.table=(i:Int))(hm:X.tabs[i]?=some m)(h0:s.row[0]?=some k)(hk:am k=true)(hl:aY m k=none→(cF m s.row).length≤200)(hb:X.log.length+1≤10000)(hrl:s.row.length≤1000000)(h:TxIn B w D x o X l) :
  Calls Tryz.prog 71 #[.pointer (some ⟨x,0,none⟩),.agg e.cells.toArray] w (d4 B D x o l (X.insert s)):=by
 have hkr:aJ s.row=k:=by unfold aJ;rw [←List.head?_eq_getElem?]at h0;cases hr:s.row with|nil=>rw [hr]at h0;cases h0|cons a t=>rw [hr]at h0;simp at h0;subst h0;rfl
 have xi:=CM (show X.insert s=if (aY m k).isSome then (X,cD 60)else (X.put i s.row,jt 1) by unfold TxM.insert;rw [hi,fQ hm,hkr])
 obtain⟨W0,hW0,h2⟩:=dN h e.cells.toArray aZ tSt bl
 have uI:=CM hW0
 obtain⟨t,g,og,pc,c0,d1,hpc,hget⟩:=ei h2 hm
 have HG:=CM (hget k)
 have hlt:(i:Int)<(X.tabs.length:Int):=by have:=(List.getElem?_eq_some_iff.1 hm).1;omega
 have uv:=CM h2
 have HM:=CM hm
 have HK:=CM hk
 have HB:=CM hb
 have C0:=CM c0
 have D1:=CM d1
 have PC:=CM hpc
 have uz:=CM hs
 have H0:=CM h0
 have HL:=CM hl
 have yA:=CM hrl
 have vK:=CM (show e.table=(i:Int)from hs.table.trans hi)
 obtain⟨rg,rog,rc,hrow⟩:=stm_row hs h0
 have vm:=CM (show RowF D (.slice (some ⟨rg,rog,none⟩) s.row.length rc) s.row by have:=hs.row;rw [hrow]at this;exact this)
 have hlen2:0<s.row.length:=(List.getElem?_eq_some_iff.1 h0).1
 have hlen:(0:Int)<(s.row.length:Int):=by omega
 have wN:=CM (show e.row.v = .slice (some ⟨rg,rog,none⟩) s.row.length rc by rw [hrow])
 have uw:=CM (RdP.rd vm.out.1 h2.sat)
 obtain⟨y0,y1,y2⟩:=aM (h:=0) uw.out h0
 rw [Nat.zero_mul,Nat.add_zero]at y0 y1 y2
 have Y0:=CM y0
 have Y1:=CM y1
 have Y2:=CM y2
 generalize hRN:s.row.length=RN at *
 have yp:=CM hRN
 generalize hTN:X.tabs.length=TN at *
 clear h hs hi hm hk hl hb hrl hW0 h2 h0 c0 d1 hpc hget hTN hkr hrow hRN uw y0 y1 y2
 go_enter Tryz.func71,Tryz.ntmps71
 go_upto_region 1 with fail
 rw [←uI.out]
 clear uI
 generalize w.heap.size+1=ba at uv ⊢
 generalize w.heap.size=bs at uv ⊢
 obtain⟨x0,x2,x3,x4,x5,x6,x7,x17,x18,x19⟩:=bj (uv.out.sat.blk 1 rfl)
 rw [vK.out]at x2
 rw [wN.out]at x6
 have c0:=C0.out
 have d1:=D1.out
 have hpc:=PC.out
 have y0:=Y0.out
 have y1:=Y1.out
 have y2:=Y2.out
 refine af [(0,false,15),(1,false,15),(2,false,15),(3,false,15),(4,false,15),(5,false,15),(6,false,15),(7,false,15),(8,false,15),(9,false,15),(10,false,15),(11,false,15),(12,false,15),(13,false,15),(14,false,15),(15,true,0),(16,false,999),(17,false,999),(18,false,999),(19,false,999),(20,false,999)] (by kernel_rfl) (by kernel_rfl) ?_
 iterate 15 (refine ae rfl rfl (fun K hK=>?_);go_simp;refine hK _ ?_;clear hK K)
 refine ag rfl ?_
 refine au rfl (fun K hK=>?_)
 go_simp
 refine HG.out.mono ?_
 rintro e1 w1 ⟨ra,rn,rc2,rfl,-,hk1⟩
 have uk:=CM (uv.out.kept hk1)
 clear hk1 uv HG c0 d1 hpc C0 D1 PC x0 x2 x3 x4 x5 x6 x7 x17 x18 x19 y0 y1 y2 Y0 Y1 Y2
 refine hK _ _ ?_
 clear hK K
 refine wpList_nil ?_
 refine And.intro ?_ ?_
 ·go_simp
 iterate 5 (refine ae rfl rfl (fun K hK=>?_);go_simp;refine hK _ ?_;clear hK K)
 refine ah ?_
 cases hf:aY m k with
 | some r =>
  have HE:=CM (show X.insert s=(X,cD 60) by rw [xi.out,hf];rfl)
  clear hf
  go_wp2_with (refine az rfl _ _ _ rfl bl ba rfl [.int .i64 60,.slice none 0 0,.int .i64 0] rfl aZ uk.out (by kernel_rfl) rfl (by intro u hu;simp at hu;rcases hu with rfl|rfl|rfl<;>rfl) ?_;intro w6 hs6;have uu:=CM hs6;clear hs6 uk)
  refine bodyPost_ret (aR rfl _ _ rfl (bF rfl (aA (uu.out.sat.blk 0 rfl)))) rfl ?_
  rw [HE.out]
  exact⟨none,0,0,D,rfl,PH.le.refl _,RowsF.nil _,uu.out.drop.drop⟩
 | none =>
  have HE:=CM (show X.insert s=(X.put i s.row,jt 1) by rw [xi.out,hf];rfl)
  have HP:=CM (oT HM.out vm.out H0.out HK.out (HL.out hf) HB.out (yp.out.symm▸yA.out) uk.out)
  clear hf
  obtain⟨x0,x2,x3,x4,x5,x6,x7,x17,x18,x19⟩:=bj (uk.out.sat.blk 1 rfl)
  rw [vK.out]at x2
  rw [wN.out]at x6
  go_wp2_with (first|(go_at_call 94;refine HP.out.mono ?_;rintro e2 w2 ⟨rfl,D2,hle,hs2⟩;have uF:=CM hle;have ur:=CM hs2;clear hle hs2 HP uk x0 x2 x3 x4 x5 x6 x7 x17 x18 x19)|(refine az rfl _ _ _ rfl bl ba rfl [.int .i64 0,.slice none 0 0,.int .i64 1] rfl aZ ur.out (by kernel_rfl) rfl (by intro u hu;simp at hu;rcases hu with rfl|rfl|rfl<;>rfl) ?_;intro w6 hs6;have uu:=CM hs6;clear hs6 ur))
  refine bodyPost_ret (aR rfl _ _ rfl (bF rfl (aA (uu.out.sat.blk 0 rfl)))) rfl ?_
  rw [HE.out]
  exact⟨none,0,0,D2,rfl,uF.out,RowsF.nil _,uu.out.drop.drop⟩
section
variable {B w w' : World} {D D' : PH} {x o i : Nat} {X : TxM} {H : TxH} {l : List HP} {m : ay}
theorem jU (hH:TxOk D X H)(le:PH.le D D')(hs:Sat B D' w (txL D x o X H++l)):TxIn B w D' x o X l :=
 ⟨H,hH.mono le,fR (D:=D') (gT le (ik hs))⟩
theorem tr (h:TxIn B w D x o X l){v:Value}{r:List Val}(hr:RowF D v r)(hl:r.length≤1000000) :
  Calls Tryz.prog 63 #[v] w fun e w'=>∃a n c D',e = .returned (.slice a n c)∧PH.le D D'∧RowF D' (.slice a n c) r∧TxIn B w' D' x o X l:=by
 obtain⟨H,hH,hs⟩:=h
 refine(gZ (RdP.rd hr.1 hs) hl hs).mono ?_
 rintro e w' ⟨v',rfl,hs'⟩
 obtain⟨D',hle,hrd,hs2⟩:=hs'.own_give
 obtain⟨a,c,rfl⟩:=hrd.shape
 exact⟨a,_,c,D',rfl,hle,⟨hrd,hr.2⟩,jU hH hle hs2⟩
theorem om (h:TxIn B w D x o X l){a:Option Addr}{n c:Nat}{r:List Val}(hr:RowF D (.slice a n c) r) :
  ∃D',PH.le D D'∧RowsF D' (.slice (some ⟨w.heap.size,0,none⟩) 1 1) [r]∧TxIn B (w.alloc (.cells #[.slice a n c] tW)) D' x o X l:=by
 obtain⟨H,hH,hs⟩:=h
 have h1:=hs.own_fresh (e:=tW) (size:=1) (n:=1) (cap:=1) (cs:=#[.slice a n c]) (xs:=[.slice a n c]) (by omega) (by unfold maxLen;omega) (by simp) (by simp) (by intro u hu;simp at hu;subst hu;rfl)
 obtain⟨D',hle,hrd,hs2⟩:=h1.own_give
 refine⟨D',hle,⟨⟨[.slice a n c],rfl,by intro u hu;simp at hu;subst hu;rfl,hrd,?_⟩,?_⟩,jU hH hle hs2⟩
 ·intro j u q hu hq
  cases j with
  | zero=>simp at hu hq;subst hu hq;exact hr.1.mono hle
  | succ j=>simp at hu
 ·intro q hq
  simp at hq
  subst hq
  exact hr.2
end
def TxM.get (X:TxM)(s:StmM):TxM×AnsM:=(X,match aY (X.tab s.table) s.key with
 | none=>cD 61
 | some r=>⟨0,[r],0⟩)
theorem oD {B w:World}{D:PH}{x o i:Nat}{X:TxM}{l:List HP}{m:ay}{e:StmE}{s:StmM}(hs:StmOk D e s)(hi:s.table=(i:Int))(hm:X.tabs[i]?=some m)(hk:am s.key=true)(hb:X.log.length+1≤10000)(h:TxIn B w D x o X l) :
  Calls Tryz.prog 73 #[.pointer (some ⟨x,0,none⟩),.agg e.cells.toArray] w (d4 B D x o l (X.drop s.table s.key)):=by
 obtain⟨W0,hW0,h2⟩:=dN h e.cells.toArray aZ tSt bl
 have uI:=CM hW0
 have HP:=CM (ml hm hk hb h2)
 rw [←hi]at HP
 have uv:=CM h2
 have vK:=CM hs.table
 have Ap:=CM hs.key
 clear h hs hi hm hk hb hW0 h2
 go_enter Tryz.func73,Tryz.ntmps73
 go_upto_region 1 with fail
 rw [←uI.out]
 clear uI
 generalize w.heap.size+1=ba at uv HP ⊢
 generalize w.heap.size=bs at uv HP ⊢
 obtain⟨x0,x2,x3,x4,x5,x6,x7,x17,x18,x19⟩:=bj (uv.out.sat.blk 1 rfl)
 rw [vK.out]at x2
 rw [Ap.out]at x3 x4 x5
 go_wp2_with (first|(go_at_call 96;refine HP.out.mono ?_;rintro e2 w2 ⟨ra,rn,rc,D2,rfl,hle,hrw,hs2⟩;have uF:=CM hle;have vm:=CM hrw;have ur:=CM hs2;clear hle hrw hs2 HP uv x0 x2 x3 x4 x5 x6 x7 x17 x18 x19)|(refine az rfl _ _ _ rfl bl ba rfl [_,.slice ra rn rc,_] rfl aZ ur.out (by kernel_rfl) rfl (by intro u hu;simp at hu;rcases hu with rfl|rfl|rfl<;>rfl) ?_;intro w6 hs6;have uu:=CM hs6;clear hs6 ur))
 refine bodyPost_ret (aR rfl _ _ rfl (bF rfl (aA (uu.out.sat.blk 0 rfl)))) rfl ?_
 exact⟨ra,rn,rc,D2,rfl,uF.out,vm.out,uu.out.drop.drop⟩
theorem sm {B w:World}{D:PH}{x o i:Nat}{X:TxM}{l:List HP}{m:ay}{e:StmE}{s:StmM}(hs:StmOk D e s)(hi:s.table=(i:Int))(hm:X.tabs[i]?=some m)(hrl:∀r∈m,r.length≤1000000)(h:TxIn B w D x o X l) :
  Calls Tryz.prog 70 #[.pointer (some ⟨x,0,none⟩),.agg e.cells.toArray] w (d4 B D x o l (X.get s)):=by
 have xi:=CM (show X.get s=(X,match aY m s.key with|none=>cD 61|some r=>⟨0,[r],0⟩) by unfold TxM.get;rw [hi,fQ hm])
 obtain⟨W0,hW0,h2⟩:=dN h e.cells.toArray aZ tSt bl
 have uI:=CM hW0
 obtain⟨t,g,og,pc,c0,d1,hpc,hget⟩:=ei h2 hm
 have HG:=CM (hget s.key)
 have hlt:(i:Int)<(X.tabs.length:Int):=by have:=(List.getElem?_eq_some_iff.1 hm).1;omega
 have uv:=CM h2
 have HM:=CM hm
 have C0:=CM c0
 have D1:=CM d1
 have PC:=CM hpc
 have vK:=CM (show e.table=(i:Int)from hs.table.trans hi)
 have Ap:=CM hs.key
 have yA:=CM (show ∀r,aY m s.key=some r→r.length≤1000000 from fun r hr=>hrl r (List.mem_of_find?_eq_some hr))
 generalize hTN:X.tabs.length=TN at *
 clear h hs hi hm hrl hW0 h2 c0 d1 hpc hget hTN
 go_enter Tryz.func70,Tryz.ntmps70
 go_upto_region 1 with fail
 rw [←uI.out]
 clear uI
 generalize w.heap.size+1=ba at uv ⊢
 generalize w.heap.size=bs at uv ⊢
 obtain⟨x0,x2,x3,x4,x5,x6,x7,x17,x18,x19⟩:=bj (uv.out.sat.blk 1 rfl)
 rw [vK.out]at x2
 rw [Ap.out]at x3 x4 x5
 have c0:=C0.out
 have d1:=D1.out
 have hpc:=PC.out
 refine af [(0,false,13),(1,false,13),(2,false,13),(3,false,13),(4,false,13),(5,false,13),(6,false,13),(7,false,13),(8,false,13),(9,false,13),(10,false,13),(11,false,13),(12,false,13),(13,true,0),(14,false,999),(15,false,999),(16,false,999),(17,false,999),(18,false,999)] (by kernel_rfl) (by kernel_rfl) ?_
 iterate 13 (refine ae rfl rfl (fun K hK=>?_);go_simp;refine hK _ ?_;clear hK K)
 refine ag rfl ?_
 refine au rfl (fun K hK=>?_)
 go_simp
 refine HG.out.mono ?_
 rintro e1 w1 ⟨ra,rn,rc2,rfl,hrow,hk1⟩
 have xG:=CM hrow
 have uk:=CM (uv.out.kept hk1)
 clear hk1 hrow uv HG c0 d1 hpc C0 D1 PC x0 x2 x3 x4 x5 x6 x7 x17 x18 x19
 refine hK _ _ ?_
 clear hK K
 refine wpList_nil ?_
 refine And.intro ?_ ?_
 ·go_simp
 iterate 5 (refine ae rfl rfl (fun K hK=>?_);go_simp;refine hK _ ?_;clear hK K)
 refine ah ?_
 cases hf:aY m s.key with
 | none =>
  have HE:=CM (show X.get s=(X,cD 61) by rw [xi.out,hf])
  clear hf
  go_wp2_with (refine az rfl _ _ _ rfl bl ba rfl [.int .i64 61,.slice none 0 0,.int .i64 0] rfl aZ uk.out (by kernel_rfl) rfl (by intro u hu;simp at hu;rcases hu with rfl|rfl|rfl<;>rfl) ?_;intro w6 hs6;have uu:=CM hs6;clear hs6 uk)
  refine bodyPost_ret (aR rfl _ _ rfl (bF rfl (aA (uu.out.sat.blk 0 rfl)))) rfl ?_
  rw [HE.out]
  exact⟨none,0,0,D,rfl,PH.le.refl _,RowsF.nil _,uu.out.drop.drop⟩
 | some r =>
  have HE:=CM (show X.get s=(X,⟨0,[r],0⟩) by rw [xi.out,hf])
  have wT:=CM (tr uk.out (show RowF D (.slice ra rn rc2) r by have:=xG.out;rw [hf]at this;exact this) (yA.out r hf))
  clear hf
  go_wp2_with (first|(go_at_call 63;refine wT.out.mono ?_;rintro e2 w2 ⟨a2,n2,c2,D2,rfl,hle,hrw,hs2⟩;obtain⟨D3,hle3,hrw3,hs3⟩:=om hs2 hrw;have uF:=CM (hle.trans hle3);have vm:=CM hrw3;have ut:=CM hs3;clear hle hrw hs2 hle3 hrw3 hs3 wT uk)|(refine az rfl _ _ _ rfl bl ba rfl [.int .i64 0,.slice (some ⟨_,0,none⟩) 1 1,.int .i64 0] rfl aZ ut.out (by kernel_rfl) rfl (by intro u hu;simp at hu;rcases hu with rfl|rfl|rfl<;>rfl) ?_;intro w6 hs6;have uu:=CM hs6;clear hs6 ut))
  refine bodyPost_ret (aR rfl _ _ rfl (bF rfl (aA (uu.out.sat.blk 0 rfl)))) rfl ?_
  rw [HE.out]
  exact⟨_,1,1,D3,rfl,uF.out,vm.out,uu.out.drop.drop⟩
def TxM.save (X:TxM)(s:StmM):TxM×AnsM:=({ X with saves:=X.saves.set s.save.toNat ((X.log.length:Int)+1) },cD 0)
theorem iK (o:Nat)(lv:Value)(sv:List Int)(cs:List CurE){k:Nat}(hk:k<sv.length)(n:Int):(aO o lv sv cs).setIfInBounds (2+k) (.int .i64 n)=aO o lv (sv.set k n) cs:=by
 unfold aO
 rw [CO,Nat.add_comm 2 k,CP,CP,List.set_append,if_pos (by simpa using hk),List.map_set]
theorem ke (o:Nat)(lv:Value)(sv:List Int)(cs:List CurE){k:Nat}{n:Int}(hk:sv[k]?=some n):(aO o lv sv cs)[2+k]?=some (.int .i64 n):=by
 have hlt:=(List.getElem?_eq_some_iff.1 hk).1
 unfold aO
 rw [List.getElem?_toArray,Nat.add_comm 2 k,List.getElem?_cons_succ,List.getElem?_cons_succ,List.getElem?_append_left (by simpa using hlt),List.getElem?_map,hk]
 rfl
theorem rp {B w:World}{D:PH}{x o k:Nat}{X:TxM}{l:List HP}{e:StmE}{s:StmM}(hs:StmOk D e s)(hi:s.save=(k:Int))(hk:k<4)(h:TxIn B w D x o X l) :
  Calls Tryz.prog 68 #[.pointer (some ⟨x,0,none⟩),.agg e.cells.toArray] w (d4 B D x o l (X.save s)):=by
 obtain⟨W0,hW0,h2⟩:=dN h e.cells.toArray aZ tSt bl
 have uI:=CM hW0
 obtain⟨H,hH,hsat⟩:=h2
 have HH:=CM hH
 obtain⟨la,lc,hlv⟩:=(hsat.front 1 rfl).own_shape
 obtain⟨_,c1,cf⟩:=cW hsat
 rw [hlv]at c1
 have hN0:H.es.length=X.log.length:=hH.log.len
 have hNb:X.log.length≤10000:=hH.small
 rw [hN0]at c1
 have hkl:k<X.saves.length:=by rw [hH.saves];exact hk
 have uv:=CM hsat
 have cs:W0.cell? ⟨x,2+k,none⟩=some (.int .i64 (X.saves[k]'hkl)):=by
  have hb:=hsat.blk 0 rfl
  simp only [World.cell?,hb]
  exact ke _ _ _ _ (List.getElem?_eq_getElem hkl)
 have CS:=CM cs
 have wm:=CM (show e.save=(k:Int)from hs.save.trans hi)
 have xF:=CM (show X.save s=(⟨X.cols,X.tabs,X.log,X.saves.set k ((X.log.length:Int)+1),X.curs⟩,cD 0) by unfold TxM.save;rw [hi];rfl)
 have C1:=CM c1
 have CF:=CM cf
 have Bh:=CM hkl
 generalize hN:X.log.length=N at *
 have hw1:IntKind.i64.wrap ((N:Int)+1)=(N:Int)+1:=IntWalk.i64_in _ (by omega)
 have hk4:(k:Int)<4:=by omega
 clear h hs hi hW0 hH hsat hlv c1 cf hN0 hN cs
 go_enter Tryz.func68,Tryz.ntmps68
 go_upto_region 1 with fail
 rw [←uI.out]
 clear uI
 generalize w.heap.size+1=ba at uv ⊢
 generalize w.heap.size=bs at uv ⊢
 obtain⟨x0,x2,x3,x4,x5,x6,x7,x17,x18,x19⟩:=bj (uv.out.blk 4 rfl)
 rw [wm.out]at x17
 have c1:=C1.out
 have cf:=CF.out
 have cs:=CS.out
 generalize X.saves[k]'hkl=z at cs
 have hs1:Sat B D (W0.setCell ⟨x,2+k,none⟩ (.int .i64 ((N:Int)+1))) (txL D x o ⟨X.cols,X.tabs,X.log,X.saves.set k ((N:Int)+1),X.curs⟩ H++(blk ba aZ bl::blk bs e.cells.toArray tSt::l)):=by
  show Sat B D _ (blk x (aO o H.lv (X.saves.set k ((N:Int)+1)) H.cs) tTx::_)
  rw [←iK o H.lv X.saves H.cs Bh.out ((N:Int)+1)]
  exact Sat.set uv.out (2+k) (.int .i64 ((N:Int)+1))
 have uk:=CM (show TxIn B _ D x o ⟨X.cols,X.tabs,X.log,X.saves.set k ((N:Int)+1),X.curs⟩ (blk ba aZ bl::blk bs e.cells.toArray tSt::l)from⟨H,⟨HH.out.log,HH.out.curs,by rw [List.length_set];exact HH.out.saves,HH.out.three,HH.out.small⟩,hs1.drew⟩)
 clear hs1
 clear hkl CS
 refine af [(0,false,12),(1,false,12),(2,false,12),(3,false,12),(4,false,12),(5,false,12),(6,false,12),(7,false,12),(8,false,12),(9,false,12),(10,false,12),(11,false,12),(12,true,0)] (by kernel_rfl) (by kernel_rfl) ?_
 iterate 12 (refine ae rfl rfl (fun K hK=>?_);go_simp;refine hK _ ?_;clear hK K)
 refine ag rfl ?_
 refine wpList_plain rfl (fun K hK=>?_)
 go_simp
 refine hK _ _ ?_
 clear hK K
 refine wpList_nil ?_
 refine And.intro ?_ ?_
 ·go_simp
 refine ah ?_
 clear c1 cf cs x0 x2 x3 x4 x5 x6 x7 x17 x18 x19 CF C1 uv
 generalize (W0.setCell ⟨x,2+k,none⟩ (.int .i64 ((N:Int)+1))).drew=W1 at uk ⊢
 go_wp2_with (refine az rfl _ _ _ rfl bl ba rfl [.int .i64 0,.slice none 0 0,.int .i64 0] rfl aZ uk.out (by kernel_rfl) rfl (by intro u hu;simp at hu;rcases hu with rfl|rfl|rfl<;>rfl) ?_;intro w6 hs6;have uu:=CM hs6;clear hs6 uk)
 refine bodyPost_ret (aR rfl _ _ rfl (bF rfl (aA (uu.out.sat.blk 0 rfl)))) rfl ?_
 rw [xF.out]
 exact⟨none,0,0,D,rfl,PH.le.refl _,RowsF.nil _,uu.out.drop.drop⟩
end Go.Proofs.YtdobimafhbfkhaaGreat
namespace Go.Proofs.YtdobimafhbfkhaaGreat
set_option linter.unusedSimpArgs false
def eM (m:ay):PL:=m.map fun r=>(aJ r,RowT.none)
theorem mv (m:ay)(r:List Val):eM (cF m r)=dn (eM m) (aJ r) RowT.none:=by
 unfold eM cF dn
 rw [List.map_append,List.map_cons,List.filter_map,List.filter_map]
 rfl
theorem qH (m:ay)(k:Val):eM (dx m k)=cK (eM m) k:=by
 unfold eM dx cK
 rw [List.filter_map]
 rfl
theorem mo (m:ay):(eM m).length=m.length:=List.length_map _
structure TabI (c:List Bool)(m:ay):Prop where
 sorted:bB (eM m)
 fits:∀r∈m,bw c r=true
 fit:∀r∈m,bR r
theorem TabI.nil (c:List Bool):TabI c []:=⟨List.Pairwise.nil,by simp,by simp⟩
theorem lm {m:ay}{r q:List Val}(h:q∈cF m r):q=r∨q∈m:=by
 unfold cF at h
 rcases List.mem_append.1 h with h|h
 ·exact .inr (List.mem_filter.1 h).1
 ·rcases List.mem_cons.1 h with h|h
  ·exact .inl h
  ·exact .inr (List.mem_filter.1 h).1
theorem TabI.put {c:List Bool}{m:ay}{r:List Val}(h:TabI c m)(hr:bw c r=true)(hf:bR r):TabI c (cF m r):=by
 refine⟨?_,fun q hq=>?_,fun q hq=>?_⟩
 ·rw [mv];exact gF h.sorted
 ·rcases lm hq with rfl|hq
  ·exact hr
  ·exact h.fits q hq
 ·rcases lm hq with rfl|hq
  ·exact hf
  ·exact h.fit q hq
theorem TabI.del {c:List Bool}{m:ay}(h:TabI c m)(k:Val):TabI c (dx m k):=by
 refine⟨?_,fun q hq=>h.fits q (List.mem_filter.1 hq).1,fun q hq=>h.fit q (List.mem_filter.1 hq).1⟩
 rw [qH];exact gp h.sorted
theorem dQ {m:ay}{k:Val}{r:List Val}(h:aY m k=some r):r∈m∧aJ r=k:=⟨List.mem_of_find?_eq_some h,by have:=List.find?_some h;simpa using this⟩
theorem dU {c:List Bool}{r:List Val}(h:bw c r=true):∃k,r[0]?=some k∧aJ r=k∧am k=true∧k.t=c.getD 0 false:=by
 unfold bw dH at h
 simp only [Bool.and_eq_true,decide_eq_true_eq]at h
 obtain⟨⟨h1,h2⟩,h3⟩:=h
 unfold cu at h1
 simp only [Bool.and_eq_true,decide_eq_true_eq]at h1
 cases r with
 | nil=>simp only [List.length_nil]at h2;omega
 | cons a r =>
  cases c with
  | nil=>simp only [List.length_nil]at h1;omega
  | cons b c =>
   rw [List.zip_cons_cons,List.length_cons,List.take_succ_cons,List.all_cons]at h3
   simp only [Bool.and_eq_true,decide_eq_true_eq]at h3
   exact⟨a,rfl,rfl,h3.1.2,h3.1.1⟩
theorem qh {m:ay}{k:Val}(hm:∀r∈m,am (aJ r)=true)(hk:am k=true):cA (eM m) k=(aY m k).isSome:=by
 unfold cA eM aY
 rw [List.any_map,List.isSome_find?,Bool.eq_iff_iff,List.any_eq_true,List.any_eq_true]
 refine⟨fun ⟨r,hr,h⟩=>⟨r,hr,?_⟩,fun ⟨r,hr,h⟩=>⟨r,hr,?_⟩⟩
 ·exact decide_eq_true (jm (hm r hr) hk (of_decide_eq_true h))
 ·have e:aJ r=k:=of_decide_eq_true h
  exact decide_eq_true (show ak (aJ r) k=0 by rw [e];exact cV k)
theorem TabI.keys {c:List Bool}{m:ay}(h:TabI c m):∀r∈m,am (aJ r)=true:=fun r hr=>by
 obtain⟨k,_,e,hk,_⟩:=dU (h.fits r hr)
 rw [e];exact hk
theorem kI {c:List Bool}{m:ay}(h:TabI c m){r:List Val}(hr:bw c r=true):(cF m r).length=m.length+(if (aY m (aJ r)).isSome then 0 else 1):=by
 have hk:am (aJ r)=true:=by obtain⟨k,_,e,hk,_⟩:=dU hr;rw [e];exact hk
 rw [←mo,mv,kq h.sorted,mo,qh h.keys hk]
theorem jz {c:List Bool}{m:ay}(h:TabI c m){r:List Val}(hr:bw c r=true)(hf:(aY m (aJ r)).isSome=true):(cF m r).length=m.length:=by
 rw [kI h hr,hf];rfl
theorem kl {c:List Bool}{r:List Val}:bw c r=true↔cu c=true∧r.length=c.length∧∀(i:Nat) (x:Val) (b:Bool),r[i]?=some x→c[i]?=some b→x.t=b∧am x=true:=by
 unfold bw dH
 rw [List.take_of_length_le (by rw [List.length_zip];exact Nat.min_le_left _ _),Bool.and_eq_true,Bool.and_eq_true,decide_eq_true_eq,List.all_eq_true,and_assoc]
 refine and_congr_right fun _=>and_congr_right fun hl=>⟨fun h i x b hx hb=>?_,fun h p hp=>?_⟩
 ·have hz:(r.zip c)[i]?=some (x,b):=by rw [List.getElem?_zip_eq_some];exact⟨hx,hb⟩
  have:=h _ (List.mem_of_getElem? hz)
  simpa using this
 ·obtain⟨i,hi⟩:=List.mem_iff_getElem?.1 hp
  rw [List.getElem?_zip_eq_some]at hi
  have:=h i p.1 p.2 hi.1 hi.2
  simpa using this
theorem sQ {c:List Bool}{i:Int}(h:aB c i=1):∃k:Nat,i=(k:Int)∧c[k]?=some false:=by
 unfold aB at h
 split at h
 ·cases h
 ·next hn =>
  have hlt:i.toNat<c.length:=by omega
  refine⟨i.toNat,by omega,?_⟩
  rw [List.getElem?_eq_getElem hlt]
  rw [List.getD_eq_getElem?_getD,List.getElem?_eq_getElem hlt,Option.getD_some]at h
  cases hc:c[i.toNat]
  ·rfl
  ·rw [hc]at h;cases h
theorem sH {c:List Bool}{i:Int}(h:aB c i=2):∃k:Nat,i=(k:Int)∧c[k]?=some true:=by
 unfold aB at h
 split at h
 ·cases h
 ·next hn =>
  have hlt:i.toNat<c.length:=by omega
  refine⟨i.toNat,by omega,?_⟩
  rw [List.getElem?_eq_getElem hlt]
  rw [List.getD_eq_getElem?_getD,List.getElem?_eq_getElem hlt,Option.getD_some]at h
  cases hc:c[i.toNat]
  ·rw [hc]at h;cases h
  ·rfl
theorem l8 {c:List Bool}{i:Int}(h:aB c i≠0):∃(k:Nat) (b:Bool),i=(k:Int)∧c[k]?=some b∧aB c i=if b then 2 else 1:=by
 rcases du c i with h0|h0|h0
 ·exact absurd h0 h
 ·obtain⟨k,e,hk⟩:=sQ h0;exact⟨k,false,e,hk,h0⟩
 ·obtain⟨k,e,hk⟩:=sH h0;exact⟨k,true,e,hk,h0⟩
theorem rm (n:Int):am (gu n)=true:=by
 unfold gu dq am
 simp
theorem toV_may {c:List Bool}{r:List Val}{s:SetM}(hf:bw c r=true)(hm:aP c s=true):∃(k:Nat) (b:Bool),s.col=(k:Int)∧1≤k∧c[k]?=some b∧(toV r s).t=b∧am (toV r s)=true:=by
 obtain⟨_,hl,hfit⟩:=kl.1 hf
 unfold aP at hm
 split at hm
 ·cases hm
 next hn =>
 have h0:aB c s.col≠0:=fun e=>hn (.inr e)
 have h1:¬s.col<1:=fun e=>hn (.inl e)
 obtain⟨k,b,e,hb,hkd⟩:=l8 h0
 refine⟨k,b,e,by omega,hb,?_⟩
 unfold toV
 by_cases o1:s.op=1
 ·rw [if_pos o1]at hm ⊢
  simp only [Bool.and_eq_true,decide_eq_true_eq]at hm
  refine⟨?_,hm.1⟩
  rw [hm.2,hkd]
  cases b<;>decide
 rw [if_neg o1]at hm ⊢
 by_cases o2:s.op=2
 ·rw [if_pos o2]at hm ⊢
  have hm2:aB c s.frm=aB c s.col:=of_decide_eq_true hm
  obtain⟨j,b',e',hb',hkd'⟩:=l8 (show aB c s.frm≠0 by rw [hm2];exact h0)
  have hbb:b'=b:=by rw [hm2,hkd]at hkd';cases b<;>cases b'<;>first|rfl|cases hkd'
  have hjl:j<r.length:=by rw [hl];exact(List.getElem?_eq_some_iff.1 hb').1
  have hx:r[j]?=some r[j]:=List.getElem?_eq_getElem hjl
  rw [e',d7 hx]
  have:=hfit j _ b' hx hb'
  rw [hbb]at this
  exact this
 rw [if_neg o2]at hm ⊢
 have hk1:aB c s.col=1:=by
  split at hm
  ·simp only [Bool.and_eq_true,decide_eq_true_eq]at hm;exact hm.1.1.1
  ·split at hm
   ·simp only [Bool.and_eq_true,decide_eq_true_eq]at hm;exact hm.1.1
   ·cases hm
 have hbf:b=false:=by rw [hk1]at hkd;cases b<;>first|rfl|cases hkd
 rw [hbf]
 exact⟨rfl,rm _⟩
theorem sA {c:List Bool}{r:List Val}{k:Nat}{b:Bool}{v:Val}(h:bw c r=true)(hb:c[k]?=some b)(ht:v.t=b)(hv:am v=true):bw c (r.set k v)=true:=by
 obtain⟨h1,h2,h3⟩:=kl.1 h
 refine kl.2 ⟨h1,by rw [List.length_set];exact h2,fun i x b' hx hb'=>?_⟩
 by_cases hi:k=i
 ·subst hi
  have hlt:k<r.length:=by have:=(List.getElem?_eq_some_iff.1 hx).1;rwa [List.length_set]at this
  rw [List.getElem?_set_self hlt]at hx
  cases hx
  rw [hb]at hb'
  cases hb'
  exact⟨ht,hv⟩
 ·rw [List.getElem?_set_ne hi]at hx
  exact h3 i x b' hx hb'
theorem mg {c:List Bool}{r:List Val}(hf:bw c r=true)(hfit:bR r):∀ {l:List SetM} {out res:List Val},(∀s∈l,aP c s=true)→(∀s∈l,s.v.fit)→bw c out=true→bR out→gb r l out=some res→bw c res=true∧bR res∧aJ res=aJ out
 | [],out,res,_,_,ho,hof,h=>by
  have:out=res:=Option.some.inj h
  subst this
  exact⟨ho,hof,rfl⟩
 | s::l,out,res,hm,hv,ho,hof,h=>by
  have h':(match toS r s with|none=>none|some v=>gb r l (out.set s.col.toNat v))=some res:=h
  rw [qb]at h'
  cases hb:toB r s with
  | false=>rw [hb]at h';cases h'
  | true =>
   rw [hb]at h'
   obtain⟨k,b,e,hk,hcb,ht,hr⟩:=toV_may hf (hm s (List.mem_cons_self ..))
   have h2:gb r l (out.set k (toV r s))=some res:=by rw [e]at h';exact h'
   obtain⟨g1,g2,g3⟩:=mg hf hfit (fun q hq=>hm q (List.mem_cons_of_mem _ hq)) (fun q hq=>hv q (List.mem_cons_of_mem _ hq)) (sA ho hcb ht hr) (qo hof (qu hfit (hv s (List.mem_cons_self ..)))) h2
   refine⟨g1,g2,g3.trans ?_⟩
   unfold aJ
   cases out with
   | nil=>rfl
   | cons a out=>cases k with
    | zero=>omega
    | succ k=>rfl
theorem lS {c:List Bool}{r:List Val}{l:List SetM}(hf:bw c r=true)(hfit:bR r)(hv:∀s∈l,s.v.fit)(h:(cJ c r l).2=0):bw c (cJ c r l).1=true∧bR (cJ c r l).1∧aJ (cJ c r l).1=aJ r:=by
 cases hs:cT c l with
 | false=>rw [sZ hf hs]at h;cases h
 | true =>
  cases hu:gb r l r with
  | none=>rw [tY hf hs hu]at h;cases h
  | some o =>
   rw [tl hf hs hu]
   exact mg hf hfit (jq hs).2 hv hf hfit hu
end Go.Proofs.YtdobimafhbfkhaaGreat
namespace Go.Proofs.YtdobimafhbfkhaaGreat
open Go.ChangeShapes Go.WideShapes Go.ChangeAt Go.RowKit
set_option maxRecDepth 100000
set_option linter.unusedSimpArgs false
section
variable {B w w' : World} {D D' : PH} {x o i : Nat} {X : TxM} {H : TxH} {l : List HP} {m : ay} {c : List Bool}
theorem l6 (h:TxIn B w D x o X l)(hc:X.cols[i]?=some c):∃g og cap cv,w.cell? ⟨x,0,none⟩=some (.pointer (some ⟨o,0,none⟩))∧w.cell? ⟨o,0,none⟩=some (.slice (some ⟨g,og,none⟩) X.cols.length cap)∧w.cell? ⟨g,og+i,none⟩=some cv∧ColD D cv c:=by
 obtain⟨H,hH,hs⟩:=h
 obtain⟨c0,_,_⟩:=cW hs
 obtain⟨y,hy,hs2⟩:=fS (ik hs)
 obtain⟨d0,_⟩:=dy hs2
 obtain⟨us,h1,h2,h3,h4⟩:=hy.1
 have hlt:=(List.getElem?_eq_some_iff.1 hc).1
 have h1':us.length=X.cols.length:=h1
 obtain⟨u,hu⟩:∃u,us[i]?=some u:=⟨us[i]'(by omega),List.getElem?_eq_getElem _⟩
 obtain⟨_,_,ao,cap,hv,_,_,_,hcell⟩:=h3.rd hs2
 have hv2:y.tv = .slice ao X.cols.length cap:=hv
 rw [hv2]at d0
 rcases hcell with h0|⟨g,og,hg,hcc⟩
 ·have:X.cols.length=0:=h0
  omega
 ·subst hg
  exact⟨g,og,cap,u,c0,d0,hcc i u hu,h4 i u c hu hc⟩
theorem qU (h:TxIn B w D x o X l){cv rv sv:Value}{r:List Val}{sets:List SetM}(hc:ColD D cv c)(hr:RowF D rv r)(hs:SetsF D sv sets) :
  Calls Tryz.prog 113 #[.agg #[cv],rv,sv] w fun e w'=>∃a n cc D',e = .returned (.tuple #[.slice a n cc,.int .i64 (cJ c r sets).2])∧PH.le D D'∧RowF D' (.slice a n cc) (cJ c r sets).1∧TxIn B w' D' x o X l:=by
 obtain⟨H,hH,hsat⟩:=h
 refine(rF hc hr hs hsat).mono ?_
 rintro e w' ⟨v',rfl,hf,hs'⟩
 obtain⟨D',hle,hrd,hs2⟩:=hs'.own_give
 obtain⟨a,cc,rfl⟩:=hrd.shape
 exact⟨a,_,cc,D',rfl,hle,⟨hrd,hf⟩,jU hH hle hs2⟩
end
def FreshD (D:PH)(hs:List Value)(fr:ay):Prop:=All2 (fun h r=>RowF D h r) hs fr
theorem FreshD.mono {D D':PH}(le:PH.le D D'){hs:List Value}{fr:ay}(h:FreshD D hs fr):FreshD D' hs fr:=h.imp (fun _ _ h=>h.mono le)
theorem jA {c:List Bool}{sets:List SetM}:∀ {l:ay} {out:ay} (n:Nat) {e:Int},e≠0→cH c sets (l.take n) out=([],e)→cH c sets l out=([],e)
 | [],out,n,e,he,h=>by simpa using h
 | r::l,out,0,e,he,h=>by
  have h':(out,(0:Int))=([],e):=h
  exact absurd (Prod.mk.inj h').2.symm he
 | r::l,out,n+1,e,he,h=>by
  have h':(if (cJ c r sets).2=0 then cH c sets (l.take n) (out ++ [(cJ c r sets).1])else ([],(cJ c r sets).2))=([],e):=h
  show(if (cJ c r sets).2=0 then cH c sets l (out ++ [(cJ c r sets).1])else ([],(cJ c r sets).2))=([],e)
  split at h'
  ·next h0=>rw [if_pos h0];exact jA n he h'
  ·next h0=>rw [if_neg h0];exact h'
theorem gv {c:List Bool}{sets:List SetM}(r:List Val):∀ {l:ay} {out fr:ay},cH c sets l out=(fr,0)→cH c sets (l ++ [r]) out=if (cJ c r sets).2=0 then (fr ++ [(cJ c r sets).1],0)else ([],(cJ c r sets).2)
 | [],out,fr,h=>by
  have h':(out,(0:Int))=(fr,0):=h
  rw [←(Prod.mk.inj h').1]
  rfl
 | q::l,out,fr,h=>by
  have h':(if (cJ c q sets).2=0 then cH c sets l (out ++ [(cJ c q sets).1])else ([],(cJ c q sets).2))=(fr,0):=h
  show(if (cJ c q sets).2=0 then cH c sets (l ++ [r]) (out ++ [(cJ c q sets).1])else ([],(cJ c q sets).2))=_
  split at h'
  ·next h0=>rw [if_pos h0];exact gv r h'
  ·next h0=>exact absurd (Prod.mk.inj h').2 h0
end Go.Proofs.YtdobimafhbfkhaaGreat
namespace Go.Proofs.YtdobimafhbfkhaaGreat
set_option linter.unusedSimpArgs false
theorem eN {m:ay}{k:Val}:(aY m k).isSome=true↔∃q∈m,aJ q=k:=by
 unfold aY
 rw [List.isSome_find?,List.any_eq_true]
 exact⟨fun ⟨q,h1,h2⟩=>⟨q,h1,of_decide_eq_true h2⟩,fun ⟨q,h1,h2⟩=>⟨q,h1,decide_eq_true h2⟩⟩
theorem oC {c:List Bool}{m:ay}(h:TabI c m){r:List Val}(hr:bw c r=true)(hf:(aY m (aJ r)).isSome=true)(k:Val):(aY (cF m r) k).isSome=(aY m k).isSome:=by
 have hk:am (aJ r)=true:=by obtain⟨k,_,e,hk,_⟩:=dU hr;rw [e];exact hk
 rw [Bool.eq_iff_iff,eN,eN]
 constructor
 ·rintro⟨q,hq,e⟩
  rcases lm hq with rfl|hq
  ·obtain⟨p,hp,e2⟩:=eN.1 hf
   exact⟨p,hp,e2.trans e⟩
  ·exact⟨q,hq,e⟩
 ·rintro⟨q,hq,e⟩
  by_cases h0:ak (aJ q) (aJ r)=0
  ·refine⟨r,?_,?_⟩
   ·unfold cF;exact List.mem_append_right _ (List.mem_cons_self ..)
   ·rw [←e];exact(jm (h.keys q hq) hk h0).symm
  ·refine⟨q,?_,e⟩
   unfold cF
   rcases Int.lt_or_lt_of_ne h0 with h1|h1
   ·exact List.mem_append_left _ (List.mem_filter.2 ⟨hq,decide_eq_true h1⟩)
   ·exact List.mem_append_right _ (List.mem_cons_of_mem _ (List.mem_filter.2 ⟨hq,decide_eq_true h1⟩))
theorem fG {X:TxM}{i:Nat}{m:ay}(h:X.tabs[i]?=some m):X.tab (i:Int)=m:=by
 unfold TxM.tab
 rw [Int.toNat_natCast,List.getD_eq_getElem?_getD,h];rfl
structure PutsI (X Y:TxM)(i:Nat)(c:List Bool)(m m':ay)(n:Nat):Prop where
 tab:Y.tabs[i]?=some m'
 well:TabI c m'
 len:m'.length=m.length
 keys:∀k,(aY m' k).isSome=(aY m k).isSome
 log:Y.log.length=X.log.length+n
 cols:Y.cols=X.cols
theorem PutsI.put {X Y:TxM}{i:Nat}{c:List Bool}{m m':ay}{n:Nat}(h:PutsI X Y i c m m' n){r:List Val}(hr:bw c r=true)(hfit:bR r)(hf:(aY m (aJ r)).isSome=true):PutsI X (Y.put i r) i c m (cF m' r) (n+1):=by
 have hf':(aY m' (aJ r)).isSome=true:=by rw [h.keys];exact hf
 have hlt:=(List.getElem?_eq_some_iff.1 h.tab).1
 refine⟨?_,h.well.put hr hfit,?_,fun k=>?_,?_,h.cols⟩
 ·show(Y.tabs.set (i:Int).toNat (cF (Y.tab i) r))[i]?=_
  rw [Int.toNat_natCast,List.getElem?_set_self hlt,fG h.tab]
 ·rw [jz h.well hr hf',h.len]
 ·rw [oC h.well hr hf',h.keys]
 ·show(Y.log ++ [_]).length=_
  rw [List.length_append,h.log];rfl
theorem oJ {X:TxM}{i:Nat}{c:List Bool}{m:ay}(hm:X.tabs[i]?=some m)(hI:TabI c m):∀(n:Nat) (fr:ay),(∀q∈fr,bw c q=true∧(aY m (aJ q)).isSome=true)→(∀q∈fr,bR q)→n≤fr.length→∃m',PutsI X ((fr.take n).foldl (fun y r=>y.put i r) X) i c m m' n
 | 0,_,_,_,_=>⟨m,hm,hI,rfl,fun _=>rfl,rfl,rfl⟩
 | n+1,fr,hf,hfit,hn=>by
  obtain⟨m',h⟩:=oJ hm hI n fr hf hfit (by omega)
  have hr:fr[n]?=some (fr[n]'(by omega)):=List.getElem?_eq_getElem _
  have hmem:=List.mem_of_getElem? hr
  refine⟨cF m' (fr[n]'(by omega)),?_⟩
  rw [List.take_add_one,hr]
  simp only [Option.toList_some,List.foldl_append,List.foldl_cons,List.foldl_nil]
  exact h.put (hf _ hmem).1 (hfit _ hmem) (hf _ hmem).2
end Go.Proofs.YtdobimafhbfkhaaGreat
