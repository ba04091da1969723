/- Joined texts: Whether a predicate may be (pred.Check). An oracle as data: tables of rows, sets, statements; what a transaction's steps come to. What kind a column is, and whether a set may be (row.kind, row.may). (printed by genok1.py) -/
import Derived.Test.YtdobimafhbfkhaaGreatOT9
import Derived.Test.YtdobimafhbfkhaaGreatOT3
import Derived.Test.YtdobimafhbfkhaaGreatOT5
set_option maxHeartbeats 64000000
namespace Go.Proofs.YtdobimafhbfkhaaGreat
open Go.ChangeShapes Go.WideShapes Go.ChangeAt Go.RowKit
set_option maxRecDepth 100000
set_option linter.unusedSimpArgs false
abbrev tCk : TypeId:=112
mutual
def PredT.nodes : PredT→List PredT
 | .mk op col v w l=>.mk op col v w l::PredT.nodesL l
def PredT.nodesL : List PredT→List PredT
 | []=>[]
 | p::l=>p.nodes++PredT.nodesL l
end
theorem jF : ∀l:List PredT,PredT.nodesL l=l.flatMap PredT.nodes
 | []=>rfl
 | p::l=>by unfold PredT.nodesL;rw [jF l];rfl
theorem iV (op col:Int)(v w:Val)(l:List PredT):(PredT.mk op col v w l).nodes = .mk op col v w l::l.flatMap PredT.nodes:=by
 conv=>lhs;unfold PredT.nodes
 rw [jF]
def bP (c:List Bool)(i:Int)(v:Val):Bool:=decide (0≤i)&&decide (i<(c.length:Int))&&decide (v.t=c.getD i.toNat false)&&am v
def ar (c:List Bool)(p:PredT):Bool :=
 if p.op=1∨p.op=2 then p.l.isEmpty
 else if 3≤p.op∧p.op≤8 then p.l.isEmpty&&bP c p.col p.v
 else if p.op=9 then p.l.isEmpty&&bP c p.col p.v&&bP c p.col p.w
 else if p.op=10 then decide (p.l.length=1)
 else if p.op=11∨p.op=12 then decide (0<p.l.length)
 else false
def cB (c:List Bool)(p:PredT):Bool:=p.nodes.all (ar c)&&decide (p.nodes.length≤15)
theorem iQ {w:World}{ck:Nat}{cv:Value}{b:Bool}{c:List Bool}(i:Int)(v:Val)(hk:w.heap[ck]?=some (.cells #[cv,.bool b] tCk (0,0)))(hc:bu w cv c) :
  Calls Tryz.prog 66 #[.pointer (some ⟨ck,0,none⟩),.int .i64 i,v.v] w fun e w'=>e = .returned (.bool (bP c i v))∧Kept (fun _=>False) w w':=by
 obtain⟨W1,hW1,hk1,hbx,hb1⟩:=iz hk #[.bool v.t,.int .i64 v.n,.string v.s] tV
 have HC:=CM (Rd.kept hc hk1.drew (fun _ _ h=>h))
 obtain⟨_,m1,ao,cap,rfl,_⟩:=hc
 have ul:=CM hW1
 have uq:=CM hk1
 obtain⟨d0,d1,df⟩:=bE hb1
 have vf:=CM hbx
 clear hk hW1 hk1 hbx hb1
 unfold maxLen at m1
 by_cases h1:0≤i
 ·by_cases h2:i<(c.length:Int)
  ·obtain⟨k,rfl⟩:∃k:Nat,i=(k:Int):=⟨i.toNat,by omega⟩
   obtain⟨x,hx⟩:∃x,c[k]?=some x:=⟨c[k]'(by omega),List.getElem?_eq_getElem _⟩
   obtain⟨cg,cog,rfl⟩:=ez HC.out hx rfl
   have hcc:=dG HC.out hx
   have hg:c.getD ((k:Int)).toNat false=x:=by rw [List.getD_eq_getElem?_getD,Int.toNat_natCast,hx];rfl
   by_cases h3:v.t=x
   ·subst h3
    have HV:=CM (show bP c (k:Int) v=am v by unfold bP;rw [hg];simp;omega)
    rw [HV.out]
    have HR:=CM (aK v)
    generalize am v=rr at *
    generalize hN:c.length=N at *
    clear hx hg hN HC HV
    go_enter Tryz.func66,Tryz.ntmps66
    go_upto_region 1 with fail
    rw [←ul.out]
    clear ul
    generalize w.heap.size=bx at vf ⊢
    obtain⟨x0,x1,x2,xf⟩:=aT vf.out
    refine af [(0,false,27),(1,false,27),(2,false,27),(3,false,27),(4,false,27),(5,false,27),(6,false,27),(7,false,27),(8,false,27),(9,false,27),(10,false,27),(11,false,27),(12,false,27),(13,false,27),(14,false,27),(15,false,27),(16,false,27),(17,false,27),(18,false,27),(19,false,27),(20,false,27),(21,false,27),(22,false,27),(23,false,27),(24,false,27),(25,false,27),(26,false,27),(27,true,0),(28,false,999),(29,false,999)] (by kernel_rfl) (by kernel_rfl) ?_
    iterate 3 (refine ae rfl rfl (fun K hK=>?_);go_simp;refine hK _ ?_;clear hK K)
    iterate 8 (first|(refine al rfl rfl ?_;simp only [Act.put,CO,CP,CQ,CR,CT,CU])|(refine ai rfl rfl (fun K hK=>?_);go_simp;refine hK _ ?_;clear hK K))
    iterate 2 (refine ae rfl rfl (fun K hK=>?_);go_simp;refine hK _ ?_;clear hK K)
    iterate 11 (first|(refine al rfl rfl ?_;simp only [Act.put,CO,CP,CQ,CR,CT,CU])|(refine ai rfl rfl (fun K hK=>?_);go_simp;refine hK _ ?_;clear hK K))
    iterate 2 (refine ae rfl rfl (fun K hK=>?_);go_simp;refine hK _ ?_;clear hK K)
    first|(refine al rfl rfl ?_;simp only [Act.put,CO,CP,CQ,CR,CT,CU])|(refine ai rfl rfl (fun K hK=>?_);go_simp;refine hK _ ?_;clear hK K)
    refine ag rfl ?_
    refine au rfl (fun K hK=>?_)
    go_simp
    refine(HR.out _).mono ?_
    rintro e4 w4 ⟨rfl,hk5⟩
    have uG:=CM (uq.out.drew.trans hk5 (fun _ h=>h.elim))
    clear hk5 x0 x1 x2 xf d0 d1 df hcc
    refine hK _ _ ?_
    clear hK K
    refine wpList_nil ?_
    refine And.intro ?_ ?_
    ·go_simp
    iterate 2 (refine ae rfl rfl (fun K hK=>?_);go_simp;refine hK _ ?_;clear hK K)
    refine ah ?_
    go_wp2_with fail
    go_ret
    exact⟨rfl,uG.out⟩
   ·have HV:=CM (show bP c (k:Int) v=false by unfold bP;rw [hg];simp [h3])
    obtain rfl:x = !v.t:=by cases x<;>cases h:v.t<;>simp_all
    rw [HV.out]
    generalize hN:c.length=N at *
    clear hx hg hN HC HV h3
    go_enter Tryz.func66,Tryz.ntmps66
    go_upto_region 1 with fail
    rw [←ul.out]
    clear ul
    generalize w.heap.size=bx at vf ⊢
    obtain⟨x0,x1,x2,xf⟩:=aT vf.out
    refine af [(0,false,27),(1,false,27),(2,false,27),(3,false,27),(4,false,27),(5,false,27),(6,false,27),(7,false,27),(8,false,27),(9,false,27),(10,false,27),(11,false,27),(12,false,27),(13,false,27),(14,false,27),(15,false,27),(16,false,27),(17,false,27),(18,false,27),(19,false,27),(20,false,27),(21,false,27),(22,false,27),(23,false,27),(24,false,27),(25,false,27),(26,false,27),(27,true,0),(28,false,999),(29,false,999)] (by kernel_rfl) (by kernel_rfl) ?_
    iterate 3 (refine ae rfl rfl (fun K hK=>?_);go_simp;refine hK _ ?_;clear hK K)
    iterate 8 (first|(refine al rfl rfl ?_;simp only [Act.put,CO,CP,CQ,CR,CT,CU])|(refine ai rfl rfl (fun K hK=>?_);go_simp;refine hK _ ?_;clear hK K))
    iterate 2 (refine ae rfl rfl (fun K hK=>?_);go_simp;refine hK _ ?_;clear hK K)
    iterate 11 (first|(refine al rfl rfl ?_;simp only [Act.put,CO,CP,CQ,CR,CT,CU])|(refine ai rfl rfl (fun K hK=>?_);go_simp;refine hK _ ?_;clear hK K))
    iterate 2 (refine ae rfl rfl (fun K hK=>?_);go_simp;refine hK _ ?_;clear hK K)
    first|(refine al rfl rfl ?_;simp only [Act.put,CO,CP,CQ,CR,CT,CU])|(refine ai rfl rfl (fun K hK=>?_);go_simp;refine hK _ ?_;clear hK K)
    refine ag rfl ?_
    refine bW rfl ?_
    simp only [Act.put,CO,CP,CQ]
    refine wpList_nil ?_
    refine And.intro ?_ ?_
    ·go_simp
    iterate 2 (refine ae rfl rfl (fun K hK=>?_);go_simp;refine hK _ ?_;clear hK K)
    refine ah ?_
    go_wp2_with fail
    go_ret
    exact⟨rfl,uq.out.drew⟩
  ·have HV:=CM (show bP c i v=false by unfold bP;rw [decide_eq_false h2];simp)
   rw [HV.out]
   clear HC HV
   go_enter Tryz.func66,Tryz.ntmps66
   go_upto_region 1 with fail
   rw [←ul.out]
   clear ul
   generalize w.heap.size=bx at vf ⊢
   refine af [(0,false,27),(1,false,27),(2,false,27),(3,false,27),(4,false,27),(5,false,27),(6,false,27),(7,false,27),(8,false,27),(9,false,27),(10,false,27),(11,false,27),(12,false,27),(13,false,27),(14,false,27),(15,false,27),(16,false,27),(17,false,27),(18,false,27),(19,false,27),(20,false,27),(21,false,27),(22,false,27),(23,false,27),(24,false,27),(25,false,27),(26,false,27),(27,true,0),(28,false,999),(29,false,999)] (by kernel_rfl) (by kernel_rfl) ?_
   iterate 3 (refine ae rfl rfl (fun K hK=>?_);go_simp;refine hK _ ?_;clear hK K)
   iterate 8 (first|(refine al rfl rfl ?_;simp only [Act.put,CO,CP,CQ,CR,CT,CU])|(refine ai rfl rfl (fun K hK=>?_);go_simp;refine hK _ ?_;clear hK K))
   iterate 2 (refine ae rfl rfl (fun K hK=>?_);go_simp;refine hK _ ?_;clear hK K)
   iterate 11 (first|(refine al rfl rfl ?_;simp only [Act.put,CO,CP,CQ,CR,CT,CU])|(refine ai rfl rfl (fun K hK=>?_);go_simp;refine hK _ ?_;clear hK K))
   iterate 2 (refine ae rfl rfl (fun K hK=>?_);go_simp;refine hK _ ?_;clear hK K)
   first|(refine al rfl rfl ?_;simp only [Act.put,CO,CP,CQ,CR,CT,CU])|(refine ai rfl rfl (fun K hK=>?_);go_simp;refine hK _ ?_;clear hK K)
   refine ag rfl ?_
   refine bW rfl ?_
   simp only [Act.put,CO,CP,CQ]
   refine wpList_nil ?_
   refine And.intro ?_ ?_
   ·go_simp
   iterate 2 (refine ae rfl rfl (fun K hK=>?_);go_simp;refine hK _ ?_;clear hK K)
   refine ah ?_
   go_wp2_with fail
   go_ret
   exact⟨rfl,uq.out.drew⟩
 ·have HV:=CM (show bP c i v=false by unfold bP;rw [decide_eq_false h1];simp)
  rw [HV.out]
  clear HC HV
  go_enter Tryz.func66,Tryz.ntmps66
  go_upto_region 1 with fail
  rw [←ul.out]
  clear ul
  generalize w.heap.size=bx at vf ⊢
  refine af [(0,false,27),(1,false,27),(2,false,27),(3,false,27),(4,false,27),(5,false,27),(6,false,27),(7,false,27),(8,false,27),(9,false,27),(10,false,27),(11,false,27),(12,false,27),(13,false,27),(14,false,27),(15,false,27),(16,false,27),(17,false,27),(18,false,27),(19,false,27),(20,false,27),(21,false,27),(22,false,27),(23,false,27),(24,false,27),(25,false,27),(26,false,27),(27,true,0),(28,false,999),(29,false,999)] (by kernel_rfl) (by kernel_rfl) ?_
  iterate 3 (refine ae rfl rfl (fun K hK=>?_);go_simp;refine hK _ ?_;clear hK K)
  iterate 8 (first|(refine al rfl rfl ?_;simp only [Act.put,CO,CP,CQ,CR,CT,CU])|(refine ai rfl rfl (fun K hK=>?_);go_simp;refine hK _ ?_;clear hK K))
  iterate 2 (refine ae rfl rfl (fun K hK=>?_);go_simp;refine hK _ ?_;clear hK K)
  iterate 11 (first|(refine al rfl rfl ?_;simp only [Act.put,CO,CP,CQ,CR,CT,CU])|(refine ai rfl rfl (fun K hK=>?_);go_simp;refine hK _ ?_;clear hK K))
  iterate 2 (refine ae rfl rfl (fun K hK=>?_);go_simp;refine hK _ ?_;clear hK K)
  first|(refine al rfl rfl ?_;simp only [Act.put,CO,CP,CQ,CR,CT,CU])|(refine ai rfl rfl (fun K hK=>?_);go_simp;refine hK _ ?_;clear hK K)
  refine ag rfl ?_
  refine bW rfl ?_
  simp only [Act.put,CO,CP,CQ]
  refine wpList_nil ?_
  refine And.intro ?_ ?_
  ·go_simp
  iterate 2 (refine ae rfl rfl (fun K hK=>?_);go_simp;refine hK _ ?_;clear hK K)
  refine ah ?_
  go_wp2_with fail
  go_ret
  exact⟨rfl,uq.out.drew⟩
end Go.Proofs.YtdobimafhbfkhaaGreat
namespace Go.Proofs.YtdobimafhbfkhaaGreat
set_option linter.unusedSimpArgs false
structure SetM where
 col:Int
 op:Int
 frm:Int
 oth:Int
 v:Val
structure StmM where
 kind:Int
 level:Int
 table:Int
 key:Val
 row:List Val
 sets:List SetM
 pred:PredT
 save:Int
 cursor:Int
 change:Bool
structure AnsM where
 e:Int
 rows:List (List Val)
 n:Int
abbrev ay := List (List Val)
def aJ (r:List Val):Val:=r.headD default
def aY (l:ay)(k:Val):Option (List Val):=l.find? (fun r=>decide (aJ r=k))
def cF (l:ay)(r:List Val):ay:=l.filter (fun q=>decide (ak (aJ q) (aJ r)<0))++r::l.filter (fun q=>decide (0<ak (aJ q) (aJ r)))
def dx (l:ay)(k:Val):ay:=l.filter (fun q=>!decide (ak (aJ q) k=0))
def cS (l:ay)(p:PredT)(s:Spn):ay:=l.filter (fun r=>bL s (aJ r)&&p.holds r)
def aB (c:List Bool)(i:Int):Int:=if i<0∨(c.length:Int)≤i then 0 else if c.getD i.toNat false then 2 else 1
def aP (c:List Bool)(s:SetM):Bool :=
 if s.col<1∨aB c s.col=0 then false else
 if s.op=1 then am s.v&&decide (s.v.t=decide (aB c s.col=2))else
 if s.op=2 then decide (aB c s.frm=aB c s.col)else
 if s.op=3∨s.op=4∨s.op=5 then decide (aB c s.col=1)&&decide (aB c s.frm=1)&&am s.v && !s.v.t else
 if s.op=6 then decide (aB c s.col=1)&&decide (aB c s.frm=1)&&decide (aB c s.oth=1)else false
def lM (l:List SetM):Bool:=decide ((l.map SetM.col).Nodup)
def cT (c:List Bool)(l:List SetM):Bool:=cu c&&decide (l.length≤3)&&l.all (aP c)&&lM l
def fP (n:Int):Bool:=decide (-9223372036854775808≤n)&&decide (n≤9223372036854775807)
def dq (n:Int):Val:=⟨false,n,⟨#[]⟩⟩
def eP (r:List Val)(i:Int):Val:=r.getD i.toNat default
def toS (r:List Val)(s:SetM):Option Val :=
 if s.op=1 then some s.v else if s.op=2 then some (eP r s.frm)else
 let n:=if s.op=3 then (eP r s.frm).n+s.v.n else if s.op=4 then (eP r s.frm).n-s.v.n else if s.op=5 then (eP r s.frm).n*s.v.n else (eP r s.frm).n+(eP r s.oth).n
 if fP n then some (dq n)else none
def gb (r:List Val):List SetM→List Val→Option (List Val)
 | [],out=>some out
 | s::l,out=>match toS r s with
  | none=>none
  | some v=>gb r l (out.set s.col.toNat v)
def cJ (c:List Bool)(r:List Val)(l:List SetM):List Val×Int :=
 if !bw c r then ([],1)else if !cu c then ([],1)else if !cT c l then ([],20)else match gb r l r with
  | none=>([],21)
  | some out=>(out,0)
def okS (cols:List (List Bool))(s:StmM):Bool :=
 let is:=decide (0≤s.table)&&decide (s.table<(cols.length:Int))&&cu (cols.getD s.table.toNat [])
 let c:=cols.getD s.table.toNat []
 let key:=is&&am s.key&&decide (s.key.t=c.getD 0 false)
 let holds:=is&&(cu c&&cB c s.pred)
 let sets:=is&&cT c s.sets
 let cursor:=decide (1≤s.cursor)&&decide (s.cursor≤2)
 if s.kind=4∨s.kind=5 then decide (1≤s.save)&&decide (s.save≤3)else
 if s.kind=6∨s.kind=9 then key else
 if s.kind=7 then is&&bw c s.row else
 if s.kind=8 then key&&sets else
 if s.kind=10∨s.kind=12 then holds else
 if s.kind=11 then holds&&sets else
 if s.kind=13 then holds&&cursor&&decide (s.pred.nodes.length≤13)else
 if 14≤s.kind∧s.kind≤17 then cursor else false
structure CurM where
 opn:Bool
 change:Bool
 stands:Bool
 table:Int
 p:PredT
 frm:Spn
 key:Val
def pred0 : PredT:=.mk 0 0 default default []
def cq : Spn:=⟨false,false,false,default,false,false,default⟩
def lF : CurM:=⟨false,false,false,0,pred0,cq,default⟩
structure BefM where
 table:Int
 key:Val
 r:List Val
structure TxM where
 cols:List (List Bool)
 tabs:List ay
 log:List BefM
 saves:List Int
 curs:List CurM
def bZ (cols:List (List Bool))(tabs:List ay):TxM:=⟨cols,tabs,[],[0,0,0,0],[lF,lF,lF]⟩
def TxM.tab (x:TxM)(t:Int):ay:=x.tabs.getD t.toNat []
def TxM.col (x:TxM)(t:Int):List Bool:=x.cols.getD t.toNat []
def TxM.lay (x:TxM)(t:Int)(l:ay):TxM:={ x with tabs:=x.tabs.set t.toNat l }
def TxM.put (x:TxM)(t:Int)(r:List Val):TxM :=
 { x with log:=x.log ++ [⟨t,aJ r,(aY (x.tab t) (aJ r)).getD []⟩],tabs:=x.tabs.set t.toNat (cF (x.tab t) r) }
def TxM.out (x:TxM)(t:Int)(k:Val):TxM :=
 { x with log:=x.log ++ [⟨t,k,(aY (x.tab t) k).getD []⟩],tabs:=x.tabs.set t.toNat (dx (x.tab t) k) }
def TxM.hold (x:TxM)(t:Int)(p:PredT)(s:Spn):ay:=cS (x.tab t) p s
def cD (e:Int):AnsM:=⟨e,[],0⟩
def jt (n:Int):AnsM:=⟨0,[],n⟩
def cH (c:List Bool)(sets:List SetM):List (List Val)→List (List Val)→List (List Val)×Int
 | [],out=>(out,0)
 | r::l,out=>if (cJ c r sets).2=0 then cH c sets l (out ++ [(cJ c r sets).1])else ([],(cJ c r sets).2)
def TxM.all (x:TxM)(t:Int)(l:ay)(sets:List SetM):TxM×AnsM :=
 if (cH (x.col t) sets l []).2=0 then ((cH (x.col t) sets l []).1.foldl (fun y r=>y.put t r) x,jt l.length)else (x,cD (cH (x.col t) sets l []).2)
def TxM.one (x:TxM)(t:Int)(k:Val)(sets:List SetM):TxM×AnsM:=match aY (x.tab t) k with
 | none=>(x,cD 61)
 | some r=>x.all t [r] sets
def TxM.drop (x:TxM)(t:Int)(k:Val):TxM×AnsM:=match aY (x.tab t) k with
 | none=>(x,cD 61)
 | some _=>(x.out t k,jt 1)
def gC (tabs:List ay)(b:BefM):List ay:=tabs.set b.table.toNat (if b.r.isEmpty then dx (tabs.getD b.table.toNat []) b.key else cF (tabs.getD b.table.toNat []) b.r)
def cU (tabs:List ay)(l:List BefM):List ay:=l.reverse.foldl gC tabs
def TxM.back (x:TxM)(n:Int):TxM×AnsM :=
 if x.saves.getD n.toNat 0=0 then (x,cD 70)else
 let at_:=x.saves.getD n.toNat 0
 ({ x with tabs:=cU x.tabs (x.log.drop (at_-1).toNat),log:=x.log.take (at_-1).toNat,saves:=x.saves.map (fun m=>if at_<m then 0 else m) },cD 0)
def TxM.cur (x:TxM)(n:Int):CurM:=x.curs.getD n.toNat lF
def TxM.setCur (x:TxM)(n:Int)(c:CurM):TxM:={ x with curs:=x.curs.set n.toNat c }
def TxM.fetch (x:TxM)(n:Int):TxM×AnsM :=
 if !(x.cur n).opn then (x,cD 161)else
 match x.hold (x.cur n).table (x.cur n).p (x.cur n).frm with
 | []=>(x.setCur n { x.cur n with stands:=false },cD 162)
 | r::_=>(x.setCur n { x.cur n with stands:=true,key:=aJ r,frm:=⟨false,true,true,aJ r,false,false,default⟩ },⟨0,[r],0⟩)
def TxM.at_ (x:TxM)(s:StmM):TxM×AnsM :=
 if !(x.cur s.cursor).opn || !(x.cur s.cursor).stands || !(x.cur s.cursor).change then (x,cD 161)else
 if s.kind=16 then x.drop (x.cur s.cursor).table (x.cur s.cursor).key else
 if !cT (x.col (x.cur s.cursor).table) s.sets then (x,cD 167)else x.one (x.cur s.cursor).table (x.cur s.cursor).key s.sets
def cC (x:TxM)(s:StmM):TxM×AnsM :=
 if !okS x.cols s then (x,cD 167)else
 if s.kind=4 then ({ x with saves:=x.saves.set s.save.toNat ((x.log.length:Int)+1) },cD 0)else
 if s.kind=5 then x.back s.save else
 if s.kind=6 then (x,match aY (x.tab s.table) s.key with
  | none=>cD 61
  | some r=>⟨0,[r],0⟩)else
 if s.kind=7 then (if (aY (x.tab s.table) (aJ s.row)).isSome then (x,cD 60)else (x.put s.table s.row,jt 1))else
 if s.kind=8 then x.one s.table s.key s.sets else
 if s.kind=9 then x.drop s.table s.key else
 if s.kind=10 then (x,⟨0,x.hold s.table s.pred cq,(x.hold s.table s.pred cq).length⟩)else
 if s.kind=11 then x.all s.table (x.hold s.table s.pred cq) s.sets else
 if s.kind=12 then ((x.hold s.table s.pred cq).foldl (fun y r=>y.out s.table (aJ r)) x,jt (x.hold s.table s.pred cq).length)else
 if s.kind=13 then (x.setCur s.cursor ⟨true,s.change,false,s.table,s.pred,cq,default⟩,cD 0)else
 if s.kind=14 then x.fetch s.cursor else
 if s.kind=17 then (if (x.cur s.cursor).opn then (x.setCur s.cursor lF,cD 0)else (x,cD 161))else x.at_ s
def bg (x:TxM):List StmM→TxM×List AnsM
 | []=>(x,[])
 | s::l=>let y:=cC x s;let z:=bg y.1 l;(z.1,y.2::z.2)
structure OrM where
 cols:List (List Bool)
 tabs:List ay
def OrM.run (o:OrM)(l:List StmM):OrM×List AnsM:=let z:=bg (bZ o.cols o.tabs) l;(⟨o.cols,z.1.tabs⟩,z.2)
def d6 (cols:List (List Bool)):OrM:=⟨cols,List.replicate cols.length []⟩
def iM (cols:List (List Bool)):Bool:=decide (1≤cols.length)&&decide (cols.length≤3)&&cols.all cu
end Go.Proofs.YtdobimafhbfkhaaGreat
namespace Go.Proofs.YtdobimafhbfkhaaGreat
open Go.ChangeShapes Go.WideShapes Go.ChangeAt Go.RowKit
set_option maxRecDepth 100000
set_option linter.unusedSimpArgs false
abbrev cI : TypeId:=70
def SetM.cells (s:SetM):List Value:=[.int .i64 s.col,.int .i64 s.op,.int .i64 s.frm,.int .i64 s.oth,.bool s.v.t,.int .i64 s.v.n,.string s.v.s]
theorem SetM.len (s:SetM):s.cells.length=7:=rfl
theorem SetM.one (s:SetM):∀u∈s.cells,u.oneCell'=true:=by intro u hu;simp [SetM.cells]at hu;rcases hu with rfl|rfl|rfl|rfl|rfl|rfl|rfl<;>rfl
@[go_sem] theorem sizeSet (x:SetM):x.cells.toArray.size=7:=rfl
theorem nm {w:World}{g o:Nat}{x:SetM}(h:w.rangeAt g o x.cells):(loadVar cI ⟨g,o,none⟩).run Tryz.prog w = .ok (.agg x.cells.toArray) w:=run_loadVar_mid w g o _ _ _ h Tryz.underlying70 rfl (by kernel_rfl)
theorem aC {w:World}{b:Nat}{x:SetM}{t:TypeId}{fr:Nat×Nat}(h:w.heap[b]?=some (.cells x.cells.toArray t fr)) :
  w.cell? ⟨b,0,none⟩=some (.int .i64 x.col)∧w.cell? ⟨b,1,none⟩=some (.int .i64 x.op)∧w.cell? ⟨b,2,none⟩=some (.int .i64 x.frm)∧w.cell? ⟨b,3,none⟩=some (.int .i64 x.oth) ∧
   w.cell? ⟨b,4,none⟩=some (.bool x.v.t)∧w.cell? ⟨b,5,none⟩=some (.int .i64 x.v.n)∧w.cell? ⟨b,6,none⟩=some (.string x.v.s):=by
 refine⟨?_,?_,?_,?_,?_,?_,?_⟩<;>simp [World.cell?,h,SetM.cells]
theorem du (c:List Bool)(i:Int):aB c i=0∨aB c i=1∨aB c i=2:=by
 unfold aB
 split
 ·exact .inl rfl
 ·split
  ·exact .inr (.inr rfl)
  ·exact .inr (.inl rfl)
theorem aN {w:World}{cv:Value}{c:List Bool}(h:bu w cv c)(i:Int) :
  Calls Tryz.prog 67 #[.agg #[cv],.int .i64 i] w fun e w'=>e = .returned (.int .i64 (aB c i))∧Kept (fun _=>False) w w':=by
 have HK:=CM (show Kept (fun _=>False) w (w.alloc (.cells #[cv] aX))from(Kept.refl _ _).alloc _)
 have HC:=CM (Rd.kept h HK.out (fun _ _ h=>h))
 obtain⟨_,m1,ao,cap,rfl,_⟩:=h
 unfold maxLen at m1
 by_cases h0:i<0
 ·have HM:=CM (show aB c i=0 by unfold aB;rw [if_pos (.inl h0)])
  go_enter Tryz.func67,Tryz.ntmps67
  go_wp2_with fail
  go_ret
  rw [HM.out]
  exact⟨rfl,HK.out⟩
 by_cases h1:(c.length:Int)≤i
 ·have HM:=CM (show aB c i=0 by unfold aB;rw [if_pos (.inr h1)])
  go_enter Tryz.func67,Tryz.ntmps67
  go_wp2_with fail
  go_ret
  rw [HM.out]
  exact⟨rfl,HK.out⟩
 obtain⟨k,rfl⟩:∃k:Nat,i=(k:Int):=⟨i.toNat,by omega⟩
 obtain⟨x,hx⟩:∃x,c[k]?=some x:=⟨c[k]'(by omega),List.getElem?_eq_getElem _⟩
 obtain⟨cg,cog,rfl⟩:=ez HC.out hx rfl
 have hcc:=dG HC.out hx
 have hg:c.getD ((k:Int)).toNat false=x:=by rw [List.getD_eq_getElem?_getD,Int.toNat_natCast,hx];rfl
 have HM:=CM (show aB c k=if x then 2 else 1 by unfold aB;rw [if_neg (by omega),hg])
 generalize hN:c.length=N at *
 have h2:¬(N:Int)≤(k:Int):=by omega
 have h3:(k:Int)<(N:Int):=by omega
 rw [HM.out]
 clear HC hx hg hN HM
 cases x
 all_goals
  go_enter Tryz.func67,Tryz.ntmps67
  go_wp2_with fail
  go_ret
  exact⟨rfl,HK.out⟩
end Go.Proofs.YtdobimafhbfkhaaGreat
