/- Whether a predicate may be (pred.Check), and what follows. -/
import Derived.Test.YtdobimafhbfkhaaGreatOY8
import Derived.Test.YtdobimafhbfkhaaGreatOY3
import Derived.Test.YtdobimafhbfkhaaGreatOY4
set_option maxHeartbeats 64000000
namespace Go.Proofs.YtdobimafhbfkhaaGreat
open Go.ChangeShapes Go.WideShapes Go.ChangeAt Go.RowKit
set_option maxRecDepth 100000
set_option linter.unusedSimpArgs false
abbrev tCk : TypeId:=112
mutual
def PredT.nodes : PredT→List PredT
 | .mk op col v w l=>.mk op col v w l::PredT.nodesL l
def PredT.nodesL : List PredT→List PredT
 | []=>[]
 | p::l=>p.nodes++PredT.nodesL l
end
theorem kO : ∀l:List PredT,PredT.nodesL l=l.flatMap PredT.nodes
 | []=>rfl
 | p::l=>by unfold PredT.nodesL;rw [kO l];rfl
theorem iz (op col:Int)(v w:Val)(l:List PredT):(PredT.mk op col v w l).nodes = .mk op col v w l::l.flatMap PredT.nodes:=by
 conv=>lhs;unfold PredT.nodes
 rw [kO]
def cC (c:List Bool)(i:Int)(v:Val):Bool:=decide (0≤i)&&decide (i<(c.length:Int))&&decide (v.t=c.getD i.toNat false)&&am v
def aI (c:List Bool)(p:PredT):Bool :=
 if p.op=1∨p.op=2 then p.l.isEmpty
 else if 3≤p.op∧p.op≤8 then p.l.isEmpty&&cC c p.col p.v
 else if p.op=9 then p.l.isEmpty&&cC c p.col p.v&&cC c p.col p.w
 else if p.op=10 then decide (p.l.length=1)
 else if p.op=11∨p.op=12 then decide (0<p.l.length)
 else false
def bY (c:List Bool)(p:PredT):Bool:=p.nodes.all (aI c)&&decide (p.nodes.length≤15)
theorem uO {w:World}{ck:Nat}{cv:Value}{b:Bool}{c:List Bool}(i:Int)(v:Val)(hk:w.heap[ck]?=some (.cells #[cv,.bool b] tCk (0,0)))(hc:fH w cv c) :
  Calls Tryz.prog 66 #[.pointer (some ⟨ck,0,none⟩),.int .i64 i,v.v] w fun e w'=>e = .returned (.bool (cC c i v))∧Kept (fun _=>False) w w':=by
 obtain⟨W1,hW1,hk1,hbx,hb1⟩:=jp hk #[.bool v.t,.int .i64 v.n,.string v.s] tV;have HC:=FH (Rd.kept hc hk1.drew (fun _ _ h=>h));obtain⟨_,m1,ao,cap,rfl,_⟩:=hc;have wM:=FH hW1;have wN:=FH hk1;obtain⟨d0,d1,df⟩:=dA hb1;have xP:=FH hbx;clear hk hW1 hk1 hbx hb1;unfold maxLen at m1;by_cases h1:0≤i
 ·by_cases h2:i<(c.length:Int)
  ·obtain⟨k,rfl⟩:∃k:Nat,i=(k:Int):=⟨i.toNat,by omega⟩
   obtain⟨x,hx⟩:∃x,c[k]?=some x:=⟨c[k]'(by omega),FP _⟩;obtain⟨cg,cog,rfl⟩:=fq HC.out hx rfl;have hcc:=dZ HC.out hx;have hg:c.getD ((k:Int)).toNat false=x:=by rw [FW,F6,hx];rfl
   by_cases h3:v.t=x
   ·subst h3
    have HV:=FH (show cC c (k:Int) v=am v by unfold cC;rw [hg];simp;omega);rw [HV.out];have HR:=FH (cP v);generalize am v=rr at *;generalize hN:c.length=N at *;clear hx hg hN HC HV;go_enter Tryz.func66,Tryz.ntmps66;go_upto_region 1 with fail
    rw [←wM.out];clear wM;generalize w.heap.size=bx at xP ⊢;obtain⟨x0,x1,x2,xf⟩:=aQ xP.out;refine aH [rq 0 27,rq 1 27,rq 2 27,rq 3 27,rq 4 27,rq 5 27,rq 6 27,rq 7 27,rq 8 27,rq 9 27,rq 10 27,rq 11 27,rq 12 27,rq 13 27,rq 14 27,rq 15 27,rq 16 27,rq 17 27,rq 18 27,rq 19 27,rq 20 27,rq 21 27,rq 22 27,rq 23 27,rq 24 27,rq 25 27,rq 26 27,(27,true,0),rq 28 999,rq 29 999] ?_;(iterate 27 (first|(refine ax rfl rfl ?_;simp only [Act.put,FI,FJ,FK,FL,FM,FN])|((first|refine ae rfl rfl (fun K hK=>?_)|refine ar rfl rfl fun K hK=>?_);go_simp;apply hK;clear hK K)));refine af rfl ?_;refine al rfl fun K hK=>?_;go_simp;refine(HR.out _).mono ?_;rintro e4 w4 ⟨rfl,hk5⟩;have xj:=FH (wN.out.drew.trans hk5 (fun _ h=>h.elim));clear hk5 x0 x1 x2 xf d0 d1 df hcc;refine hK _ _ ?_;clear hK K;refine wpList_nil ?_;apply And.intro
    ·go_simp
    (iterate 2 (refine ae rfl rfl fun K hK=>?_;go_simp;apply hK;clear hK K));refine ag ?_
    go_wp2_with fail;go_ret;exact⟨rfl,xj.out⟩
   ·have HV:=FH (show cC c (k:Int) v=false by unfold cC;rw [hg];simp [h3])
    obtain rfl:x = !v.t:=by cases x<;>cases h:v.t<;>simp_all
    rw [HV.out];generalize hN:c.length=N at *;clear hx hg hN HC HV h3;go_enter Tryz.func66,Tryz.ntmps66;go_upto_region 1 with fail
    rw [←wM.out];clear wM;generalize w.heap.size=bx at xP ⊢;obtain⟨x0,x1,x2,xf⟩:=aQ xP.out;refine aH [rq 0 27,rq 1 27,rq 2 27,rq 3 27,rq 4 27,rq 5 27,rq 6 27,rq 7 27,rq 8 27,rq 9 27,rq 10 27,rq 11 27,rq 12 27,rq 13 27,rq 14 27,rq 15 27,rq 16 27,rq 17 27,rq 18 27,rq 19 27,rq 20 27,rq 21 27,rq 22 27,rq 23 27,rq 24 27,rq 25 27,rq 26 27,(27,true,0),rq 28 999,rq 29 999] ?_;(iterate 27 (first|(refine ax rfl rfl ?_;simp only [Act.put,FI,FJ,FK,FL,FM,FN])|((first|refine ae rfl rfl (fun K hK=>?_)|refine ar rfl rfl fun K hK=>?_);go_simp;apply hK;clear hK K)));refine af rfl ?_;refine bU rfl ?_;simp only [Act.put,FI,FJ,FK];refine wpList_nil ?_;apply And.intro
    ·go_simp
    (iterate 2 (refine ae rfl rfl fun K hK=>?_;go_simp;apply hK;clear hK K));refine ag ?_
    go_wp2_with fail;go_ret;exact⟨rfl,wN.out.drew⟩
  ·have HV:=FH (show cC c i v=false by unfold cC;rw [FY h2];simp)
   rw [HV.out];clear HC HV;go_enter Tryz.func66,Tryz.ntmps66;go_upto_region 1 with fail
   rw [←wM.out];clear wM;generalize w.heap.size=bx at xP ⊢;refine aH [rq 0 27,rq 1 27,rq 2 27,rq 3 27,rq 4 27,rq 5 27,rq 6 27,rq 7 27,rq 8 27,rq 9 27,rq 10 27,rq 11 27,rq 12 27,rq 13 27,rq 14 27,rq 15 27,rq 16 27,rq 17 27,rq 18 27,rq 19 27,rq 20 27,rq 21 27,rq 22 27,rq 23 27,rq 24 27,rq 25 27,rq 26 27,(27,true,0),rq 28 999,rq 29 999] ?_;iterate 27 (first|(refine ax rfl rfl ?_;simp only [Act.put,FI,FJ,FK,FL,FM,FN])|((first|refine ae rfl rfl (fun K hK=>?_)|refine ar rfl rfl fun K hK=>?_);go_simp;apply hK;clear hK K))
   refine af rfl ?_;refine bU rfl ?_;simp only [Act.put,FI,FJ,FK];refine wpList_nil ?_;apply And.intro
   ·go_simp
   iterate 2 (refine ae rfl rfl fun K hK=>?_;go_simp;apply hK;clear hK K)
   refine ag ?_;go_wp2_with fail;go_ret;exact⟨rfl,wN.out.drew⟩
 ·have HV:=FH (show cC c i v=false by unfold cC;rw [FY h1];simp)
  rw [HV.out];clear HC HV;go_enter Tryz.func66,Tryz.ntmps66;go_upto_region 1 with fail
  rw [←wM.out];clear wM;generalize w.heap.size=bx at xP ⊢;refine aH [rq 0 27,rq 1 27,rq 2 27,rq 3 27,rq 4 27,rq 5 27,rq 6 27,rq 7 27,rq 8 27,rq 9 27,rq 10 27,rq 11 27,rq 12 27,rq 13 27,rq 14 27,rq 15 27,rq 16 27,rq 17 27,rq 18 27,rq 19 27,rq 20 27,rq 21 27,rq 22 27,rq 23 27,rq 24 27,rq 25 27,rq 26 27,(27,true,0),rq 28 999,rq 29 999] ?_;iterate 27 (first|(refine ax rfl rfl ?_;simp only [Act.put,FI,FJ,FK,FL,FM,FN])|((first|refine ae rfl rfl (fun K hK=>?_)|refine ar rfl rfl fun K hK=>?_);go_simp;apply hK;clear hK K))
  refine af rfl ?_;refine bU rfl ?_;simp only [Act.put,FI,FJ,FK];refine wpList_nil ?_;apply And.intro
  ·go_simp
  iterate 2 (refine ae rfl rfl fun K hK=>?_;go_simp;apply hK;clear hK K)
  refine ag ?_;go_wp2_with fail;go_ret;exact⟨rfl,wN.out.drew⟩
end Go.Proofs.YtdobimafhbfkhaaGreat
namespace Go.Proofs.YtdobimafhbfkhaaGreat
set_option linter.unusedSimpArgs false
structure SetM where
 col:Int
 op:Int
 frm:Int
 oth:Int
 v:Val
structure StmM where
 kind:Int
 level:Int
 table:Int
 key:Val
 row:List Val
 sets:List SetM
 pred:PredT
 save:Int
 cursor:Int
 change:Bool
structure AnsM where
 e:Int
 rows:List (List Val)
 n:Int
abbrev aq := List (List Val)
def au (r:List Val):Val:=r.headD default
def aP (l:aq)(k:Val):Option (List Val):=l.find? (fun r=>decide (au r=k))
def cw (l:aq)(r:List Val):aq:=l.filter (fun q=>decide (ai (au q) (au r)<0))++r::l.filter (fun q=>decide (0<ai (au q) (au r)))
def cR (l:aq)(k:Val):aq:=l.filter (fun q=>!decide (ai (au q) k=0))
def cz (l:aq)(p:PredT)(s:Spn):aq:=l.filter (fun r=>bI s (au r)&&p.holds r)
def bK (c:List Bool)(i:Int):Int:=if i<0∨(c.length:Int)≤i then 0 else if c.getD i.toNat false then 2 else 1
def bH (c:List Bool)(s:SetM):Bool :=
 if s.col<1∨bK c s.col=0 then false else
 if s.op=1 then am s.v&&decide (s.v.t=decide (bK c s.col=2))else
 if s.op=2 then decide (bK c s.frm=bK c s.col)else
 if s.op=3∨s.op=4∨s.op=5 then decide (bK c s.col=1)&&decide (bK c s.frm=1)&&am s.v && !s.v.t else
 if s.op=6 then decide (bK c s.col=1)&&decide (bK c s.frm=1)&&decide (bK c s.oth=1)else false
def nJ (l:List SetM):Bool:=decide ((l.map SetM.col).Nodup)
def cG (c:List Bool)(l:List SetM):Bool:=cj c&&decide (l.length≤3)&&l.all (bH c)&&nJ l
def eP (n:Int):Bool:=decide (-9223372036854775808≤n)&&decide (n≤9223372036854775807)
def dB (n:Int):Val:=⟨false,n,⟨#[]⟩⟩
def fE (r:List Val)(i:Int):Val:=r.getD i.toNat default
def toS (r:List Val)(s:SetM):Option Val :=
 if s.op=1 then some s.v else if s.op=2 then some (fE r s.frm)else
 let n:=if s.op=3 then (fE r s.frm).n+s.v.n else if s.op=4 then (fE r s.frm).n-s.v.n else if s.op=5 then (fE r s.frm).n*s.v.n else (fE r s.frm).n+(fE r s.oth).n
 if eP n then some (dB n)else none
def fI (r:List Val):List SetM→List Val→Option (List Val)
 | [],out=>some out
 | s::l,out=>match toS r s with
  | none=>none
  | some v=>fI r l (out.set s.col.toNat v)
def cM (c:List Bool)(r:List Val)(l:List SetM):List Val×Int :=
 if !aX c r then ([],1)else if !cj c then ([],1)else if !cG c l then ([],20)else match fI r l r with
  | none=>([],21)
  | some out=>(out,0)
def okS (cols:List (List Bool))(s:StmM):Bool :=
 let is:=decide (0≤s.table)&&decide (s.table<(cols.length:Int))&&cj (cols.getD s.table.toNat [])
 let c:=cols.getD s.table.toNat []
 let key:=is&&am s.key&&decide (s.key.t=c.getD 0 false)
 let holds:=is&&(cj c&&bY c s.pred)
 let sets:=is&&cG c s.sets
 let cursor:=decide (1≤s.cursor)&&decide (s.cursor≤2)
 if s.kind=4∨s.kind=5 then decide (1≤s.save)&&decide (s.save≤3)else
 if s.kind=6∨s.kind=9 then key else
 if s.kind=7 then is&&aX c s.row else
 if s.kind=8 then key&&sets else
 if s.kind=10∨s.kind=12 then holds else
 if s.kind=11 then holds&&sets else
 if s.kind=13 then holds&&cursor&&decide (s.pred.nodes.length≤13)else
 if 14≤s.kind∧s.kind≤17 then cursor else false
structure CurM where
 opn:Bool
 change:Bool
 stands:Bool
 table:Int
 p:PredT
 frm:Spn
 key:Val
def pred0 : PredT:=.mk 0 0 default default []
def bj : Spn:=⟨false,false,false,default,false,false,default⟩
def kT : CurM:=⟨false,false,false,0,pred0,bj,default⟩
structure BefM where
 table:Int
 key:Val
 r:List Val
structure TxM where
 cols:List (List Bool)
 tabs:List aq
 log:List BefM
 saves:List Int
 curs:List CurM
def cS (cols:List (List Bool))(tabs:List aq):TxM:=⟨cols,tabs,[],[0,0,0,0],[kT,kT,kT]⟩
def TxM.tab (x:TxM)(t:Int):aq:=x.tabs.getD t.toNat []
def TxM.col (x:TxM)(t:Int):List Bool:=x.cols.getD t.toNat []
def TxM.lay (x:TxM)(t:Int)(l:aq):TxM:={ x with tabs:=x.tabs.set t.toNat l }
def TxM.put (x:TxM)(t:Int)(r:List Val):TxM :=
 { x with log:=x.log ++ [⟨t,au r,(aP (x.tab t) (au r)).getD []⟩],tabs:=x.tabs.set t.toNat (cw (x.tab t) r) }
def TxM.out (x:TxM)(t:Int)(k:Val):TxM :=
 { x with log:=x.log ++ [⟨t,k,(aP (x.tab t) k).getD []⟩],tabs:=x.tabs.set t.toNat (cR (x.tab t) k) }
def TxM.hold (x:TxM)(t:Int)(p:PredT)(s:Spn):aq:=cz (x.tab t) p s
def bJ (e:Int):AnsM:=⟨e,[],0⟩
def fL (n:Int):AnsM:=⟨0,[],n⟩
def cB (c:List Bool)(sets:List SetM):List (List Val)→List (List Val)→List (List Val)×Int
 | [],out=>(out,0)
 | r::l,out=>if (cM c r sets).2=0 then cB c sets l (out ++ [(cM c r sets).1])else ([],(cM c r sets).2)
def TxM.all (x:TxM)(t:Int)(l:aq)(sets:List SetM):TxM×AnsM :=
 if (cB (x.col t) sets l []).2=0 then ((cB (x.col t) sets l []).1.foldl (fun y r=>y.put t r) x,fL l.length)else (x,bJ (cB (x.col t) sets l []).2)
def TxM.one (x:TxM)(t:Int)(k:Val)(sets:List SetM):TxM×AnsM:=match aP (x.tab t) k with
 | none=>(x,bJ 61)
 | some r=>x.all t [r] sets
def TxM.drop (x:TxM)(t:Int)(k:Val):TxM×AnsM:=match aP (x.tab t) k with
 | none=>(x,bJ 61)
 | some _=>(x.out t k,fL 1)
def eU (tabs:List aq)(b:BefM):List aq:=tabs.set b.table.toNat (if b.r.isEmpty then cR (tabs.getD b.table.toNat []) b.key else cw (tabs.getD b.table.toNat []) b.r)
def bl (tabs:List aq)(l:List BefM):List aq:=l.reverse.foldl eU tabs
def TxM.back (x:TxM)(n:Int):TxM×AnsM :=
 if x.saves.getD n.toNat 0=0 then (x,bJ 70)else
 let at_:=x.saves.getD n.toNat 0
 ({ x with tabs:=bl x.tabs (x.log.drop (at_-1).toNat),log:=x.log.take (at_-1).toNat,saves:=x.saves.map (fun m=>if at_<m then 0 else m) },bJ 0)
def TxM.cur (x:TxM)(n:Int):CurM:=x.curs.getD n.toNat kT
def TxM.setCur (x:TxM)(n:Int)(c:CurM):TxM:={ x with curs:=x.curs.set n.toNat c }
def TxM.fetch (x:TxM)(n:Int):TxM×AnsM :=
 if !(x.cur n).opn then (x,bJ 161)else
 match x.hold (x.cur n).table (x.cur n).p (x.cur n).frm with
 | []=>(x.setCur n { x.cur n with stands:=false },bJ 162)
 | r::_=>(x.setCur n { x.cur n with stands:=true,key:=au r,frm:=⟨false,true,true,au r,false,false,default⟩ },⟨0,[r],0⟩)
def TxM.at_ (x:TxM)(s:StmM):TxM×AnsM :=
 if !(x.cur s.cursor).opn || !(x.cur s.cursor).stands || !(x.cur s.cursor).change then (x,bJ 161)else
 if s.kind=16 then x.drop (x.cur s.cursor).table (x.cur s.cursor).key else
 if !cG (x.col (x.cur s.cursor).table) s.sets then (x,bJ 167)else x.one (x.cur s.cursor).table (x.cur s.cursor).key s.sets
def cN (x:TxM)(s:StmM):TxM×AnsM :=
 if !okS x.cols s then (x,bJ 167)else
 if s.kind=4 then ({ x with saves:=x.saves.set s.save.toNat ((x.log.length:Int)+1) },bJ 0)else
 if s.kind=5 then x.back s.save else
 if s.kind=6 then (x,match aP (x.tab s.table) s.key with
  | none=>bJ 61
  | some r=>⟨0,[r],0⟩)else
 if s.kind=7 then (if (aP (x.tab s.table) (au s.row)).isSome then (x,bJ 60)else (x.put s.table s.row,fL 1))else
 if s.kind=8 then x.one s.table s.key s.sets else
 if s.kind=9 then x.drop s.table s.key else
 if s.kind=10 then (x,⟨0,x.hold s.table s.pred bj,(x.hold s.table s.pred bj).length⟩)else
 if s.kind=11 then x.all s.table (x.hold s.table s.pred bj) s.sets else
 if s.kind=12 then ((x.hold s.table s.pred bj).foldl (fun y r=>y.out s.table (au r)) x,fL (x.hold s.table s.pred bj).length)else
 if s.kind=13 then (x.setCur s.cursor ⟨true,s.change,false,s.table,s.pred,bj,default⟩,bJ 0)else
 if s.kind=14 then x.fetch s.cursor else
 if s.kind=17 then (if (x.cur s.cursor).opn then (x.setCur s.cursor kT,bJ 0)else (x,bJ 161))else x.at_ s
def cF (x:TxM):List StmM→TxM×List AnsM
 | []=>(x,[])
 | s::l=>let y:=cN x s;let z:=cF y.1 l;(z.1,y.2::z.2)
structure OrM where
 cols:List (List Bool)
 tabs:List aq
def OrM.run (o:OrM)(l:List StmM):OrM×List AnsM:=let z:=cF (cS o.cols o.tabs) l;(⟨o.cols,z.1.tabs⟩,z.2)
def fJ (cols:List (List Bool)):OrM:=⟨cols,List.replicate cols.length []⟩
def eo (cols:List (List Bool)):Bool:=decide (1≤cols.length)&&decide (cols.length≤3)&&cols.all cj
end Go.Proofs.YtdobimafhbfkhaaGreat
namespace Go.Proofs.YtdobimafhbfkhaaGreat
open Go.ChangeShapes Go.WideShapes Go.ChangeAt Go.RowKit
set_option maxRecDepth 100000
set_option linter.unusedSimpArgs false
abbrev kl : TypeId:=70
def SetM.cells (s:SetM):List Value:=[.int .i64 s.col,.int .i64 s.op,.int .i64 s.frm,.int .i64 s.oth,.bool s.v.t,.int .i64 s.v.n,.string s.v.s]
theorem SetM.len (s:SetM):s.cells.length=7:=rfl
theorem SetM.one (s:SetM):∀u∈s.cells,u.oneCell'=true:=by intro u hu;simp [SetM.cells]at hu;rcases hu with rfl|rfl|rfl|rfl|rfl|rfl|rfl<;>rfl
@[go_sem] theorem sizeSet (x:SetM):x.cells.toArray.size=7:=rfl
theorem lD {w:World}{g o:Nat}{x:SetM}(h:w.rangeAt g o x.cells):(loadVar kl ⟨g,o,none⟩).run Tryz.prog w = .ok (.agg x.cells.toArray) w:=run_loadVar_mid w g o _ _ _ h Tryz.underlying70 rfl (by kernel_rfl)
theorem bP {w:World}{b:Nat}{x:SetM}{t:TypeId}{fr:Nat×Nat}(h:w.heap[b]?=some (.cells x.cells.toArray t fr)) :
  w.cell? ⟨b,0,none⟩=some (.int .i64 x.col)∧w.cell? ⟨b,1,none⟩=some (.int .i64 x.op)∧w.cell? ⟨b,2,none⟩=some (.int .i64 x.frm)∧w.cell? ⟨b,3,none⟩=some (.int .i64 x.oth) ∧
   w.cell? ⟨b,4,none⟩=some (.bool x.v.t)∧w.cell? ⟨b,5,none⟩=some (.int .i64 x.v.n)∧w.cell? ⟨b,6,none⟩=some (.string x.v.s):=by
 refine⟨?_,?_,?_,?_,?_,?_,?_⟩<;>simp [World.cell?,h,SetM.cells]
theorem gJ (c:List Bool)(i:Int):bK c i=0∨bK c i=1∨bK c i=2:=by
 unfold bK;split
 ·exact .inl rfl
 ·split
  ·exact .inr (.inr rfl)
  ·exact .inr (.inl rfl)
theorem rh {w:World}{cv:Value}{c:List Bool}(h:fH w cv c)(i:Int) :
  Calls Tryz.prog 67 #[.agg #[cv],.int .i64 i] w fun e w'=>e = .returned (.int .i64 (bK c i))∧Kept (fun _=>False) w w':=by
 have HK:=FH (show Kept (fun _=>False) w (w.alloc (.cells #[cv] bN))from(Kept.refl _ _).alloc _);have HC:=FH (Rd.kept h HK.out (fun _ _ h=>h));obtain⟨_,m1,ao,cap,rfl,_⟩:=h;unfold maxLen at m1;by_cases h0:i<0
 ·have HM:=FH (show bK c i=0 by unfold bK;rw [if_pos (.inl h0)])
  go_enter Tryz.func67,Tryz.ntmps67;go_wp2_with fail;go_ret;rw [HM.out];exact⟨rfl,HK.out⟩
 by_cases h1:(c.length:Int)≤i
 ·have HM:=FH (show bK c i=0 by unfold bK;rw [if_pos (.inr h1)])
  go_enter Tryz.func67,Tryz.ntmps67;go_wp2_with fail;go_ret;rw [HM.out];exact⟨rfl,HK.out⟩
 obtain⟨k,rfl⟩:∃k:Nat,i=(k:Int):=⟨i.toNat,by omega⟩;obtain⟨x,hx⟩:∃x,c[k]?=some x:=⟨c[k]'(by omega),FP _⟩;obtain⟨cg,cog,rfl⟩:=fq HC.out hx rfl;have hcc:=dZ HC.out hx;have hg:c.getD ((k:Int)).toNat false=x:=by rw [FW,F6,hx];rfl
 have HM:=FH (show bK c k=if x then 2 else 1 by unfold bK;rw [if_neg (by omega),hg]);generalize hN:c.length=N at *;have h2:¬(N:Int)≤(k:Int):=by omega
 have h3:(k:Int)<(N:Int):=by omega
 rw [HM.out];clear HC hx hg hN HM;cases x
 all_goals
  go_enter Tryz.func67,Tryz.ntmps67;go_wp2_with fail;go_ret;exact⟨rfl,HK.out⟩
end Go.Proofs.YtdobimafhbfkhaaGreat
