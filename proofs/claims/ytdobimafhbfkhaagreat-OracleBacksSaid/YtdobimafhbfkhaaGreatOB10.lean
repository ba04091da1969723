/- Joined texts: Whether a predicate may be (pred.Check). An oracle as data: tables of rows, sets, statements; what a transaction's steps come to. What kind a column is, and whether a set may be (row.kind, row.may). (printed by genok1.py) -/
import Derived.Test.YtdobimafhbfkhaaGreatOB9
import Derived.Test.YtdobimafhbfkhaaGreatOB3
import Derived.Test.YtdobimafhbfkhaaGreatOB5
set_option maxHeartbeats 64000000
namespace Go.Proofs.YtdobimafhbfkhaaGreat
open Go.ChangeShapes Go.WideShapes Go.ChangeAt Go.RowKit
set_option maxRecDepth 100000
set_option linter.unusedSimpArgs false
abbrev tCk : TypeId:=112
mutual
def PredT.nodes : PredT→List PredT
 | .mk op col v w l=>.mk op col v w l::PredT.nodesL l
def PredT.nodesL : List PredT→List PredT
 | []=>[]
 | p::l=>p.nodes++PredT.nodesL l
end
theorem jx : ∀l:List PredT,PredT.nodesL l=l.flatMap PredT.nodes
 | []=>rfl
 | p::l=>by unfold PredT.nodesL;rw [jx l];rfl
theorem kw (op col:Int)(v w:Val)(l:List PredT):(PredT.mk op col v w l).nodes = .mk op col v w l::l.flatMap PredT.nodes:=by
 conv=>lhs;unfold PredT.nodes
 rw [jx]
def cV (c:List Bool)(i:Int)(v:Val):Bool:=decide (0≤i)&&decide (i<(c.length:Int))&&decide (v.t=c.getD i.toNat false)&&al v
def aL (c:List Bool)(p:PredT):Bool :=
 if p.op=1∨p.op=2 then p.l.isEmpty
 else if 3≤p.op∧p.op≤8 then p.l.isEmpty&&cV c p.col p.v
 else if p.op=9 then p.l.isEmpty&&cV c p.col p.v&&cV c p.col p.w
 else if p.op=10 then decide (p.l.length=1)
 else if p.op=11∨p.op=12 then decide (0<p.l.length)
 else false
def dB (c:List Bool)(p:PredT):Bool:=p.nodes.all (aL c)&&decide (p.nodes.length≤15)
theorem iI {w:World}{ck:Nat}{cv:Value}{b:Bool}{c:List Bool}(i:Int)(v:Val)(hk:w.heap[ck]?=some (.cells #[cv,.bool b] tCk (0,0)))(hc:bC w cv c) :
  Calls Tryz.prog 66 #[.pointer (some ⟨ck,0,none⟩),.int .i64 i,v.v] w fun e w'=>e = .returned (.bool (cV c i v))∧Kept (fun _=>False) w w':=by
 obtain⟨W1,hW1,hk1,hbx,hb1⟩:=im hk #[.bool v.t,.int .i64 v.n,.string v.s] tV
 have HC:=B5 (Rd.kept hc hk1.drew (fun _ _ h=>h))
 obtain⟨_,m1,ao,cap,rfl,_⟩:=hc
 have tE:=B5 hW1
 have tK:=B5 hk1
 obtain⟨d0,d1,df⟩:=bl hb1
 have uG:=B5 hbx
 clear hk hW1 hk1 hbx hb1
 unfold maxLen at m1
 by_cases h1:0≤i
 ·by_cases h2:i<(c.length:Int)
  ·obtain⟨k,rfl⟩:∃k:Nat,i=(k:Int):=⟨i.toNat,by omega⟩
   obtain⟨x,hx⟩:∃x,c[k]?=some x:=⟨c[k]'(by omega),List.getElem?_eq_getElem _⟩
   obtain⟨cg,cog,rfl⟩:=ni HC.out hx rfl
   have hcc:=kA HC.out hx
   have hg:c.getD ((k:Int)).toNat false=x:=by rw [List.getD_eq_getElem?_getD,Int.toNat_natCast,hx];rfl
   by_cases h3:v.t=x
   ·subst h3
    have HV:=B5 (show cV c (k:Int) v=al v by unfold cV;rw [hg];simp;omega)
    rw [HV.out]
    have HR:=B5 (aJ v)
    generalize al v=rr at *
    generalize hN:c.length=N at *
    clear hx hg hN HC HV
    go_enter Tryz.func66,Tryz.ntmps66
    go_upto_region 1 with fail
    rw [←tE.out]
    clear tE
    generalize w.heap.size=bx at uG ⊢
    obtain⟨x0,x1,x2,xf⟩:=aT uG.out
    refine af [(0,false,27),(1,false,27),(2,false,27),(3,false,27),(4,false,27),(5,false,27),(6,false,27),(7,false,27),(8,false,27),(9,false,27),(10,false,27),(11,false,27),(12,false,27),(13,false,27),(14,false,27),(15,false,27),(16,false,27),(17,false,27),(18,false,27),(19,false,27),(20,false,27),(21,false,27),(22,false,27),(23,false,27),(24,false,27),(25,false,27),(26,false,27),(27,true,0),(28,false,999),(29,false,999)] (by kernel_rfl) (by kernel_rfl) ?_
    iterate 3 (refine ae rfl rfl (fun K hK=>?_);go_simp;refine hK _ ?_;clear hK K)
    iterate 8 (first|(refine aw rfl rfl ?_;simp only [Act.put,B6,B7,B8,B9,Ca,Cb])|(refine am rfl rfl (fun K hK=>?_);go_simp;refine hK _ ?_;clear hK K))
    iterate 2 (refine ae rfl rfl (fun K hK=>?_);go_simp;refine hK _ ?_;clear hK K)
    iterate 11 (first|(refine aw rfl rfl ?_;simp only [Act.put,B6,B7,B8,B9,Ca,Cb])|(refine am rfl rfl (fun K hK=>?_);go_simp;refine hK _ ?_;clear hK K))
    iterate 2 (refine ae rfl rfl (fun K hK=>?_);go_simp;refine hK _ ?_;clear hK K)
    first|(refine aw rfl rfl ?_;simp only [Act.put,B6,B7,B8,B9,Ca,Cb])|(refine am rfl rfl (fun K hK=>?_);go_simp;refine hK _ ?_;clear hK K)
    refine ah rfl ?_
    refine aq rfl (fun K hK=>?_)
    go_simp
    refine(HR.out _).mono ?_
    rintro e4 w4 ⟨rfl,hk5⟩
    have uD:=B5 (tK.out.drew.trans hk5 (fun _ h=>h.elim))
    clear hk5 x0 x1 x2 xf d0 d1 df hcc
    refine hK _ _ ?_
    clear hK K
    refine wpList_nil ?_
    refine And.intro ?_ ?_
    ·go_simp
    iterate 2 (refine ae rfl rfl (fun K hK=>?_);go_simp;refine hK _ ?_;clear hK K)
    refine ai ?_
    go_wp2_with fail
    go_ret
    exact⟨rfl,uD.out⟩
   ·have HV:=B5 (show cV c (k:Int) v=false by unfold cV;rw [hg];simp [h3])
    obtain rfl:x = !v.t:=by cases x<;>cases h:v.t<;>simp_all
    rw [HV.out]
    generalize hN:c.length=N at *
    clear hx hg hN HC HV h3
    go_enter Tryz.func66,Tryz.ntmps66
    go_upto_region 1 with fail
    rw [←tE.out]
    clear tE
    generalize w.heap.size=bx at uG ⊢
    obtain⟨x0,x1,x2,xf⟩:=aT uG.out
    refine af [(0,false,27),(1,false,27),(2,false,27),(3,false,27),(4,false,27),(5,false,27),(6,false,27),(7,false,27),(8,false,27),(9,false,27),(10,false,27),(11,false,27),(12,false,27),(13,false,27),(14,false,27),(15,false,27),(16,false,27),(17,false,27),(18,false,27),(19,false,27),(20,false,27),(21,false,27),(22,false,27),(23,false,27),(24,false,27),(25,false,27),(26,false,27),(27,true,0),(28,false,999),(29,false,999)] (by kernel_rfl) (by kernel_rfl) ?_
    iterate 3 (refine ae rfl rfl (fun K hK=>?_);go_simp;refine hK _ ?_;clear hK K)
    iterate 8 (first|(refine aw rfl rfl ?_;simp only [Act.put,B6,B7,B8,B9,Ca,Cb])|(refine am rfl rfl (fun K hK=>?_);go_simp;refine hK _ ?_;clear hK K))
    iterate 2 (refine ae rfl rfl (fun K hK=>?_);go_simp;refine hK _ ?_;clear hK K)
    iterate 11 (first|(refine aw rfl rfl ?_;simp only [Act.put,B6,B7,B8,B9,Ca,Cb])|(refine am rfl rfl (fun K hK=>?_);go_simp;refine hK _ ?_;clear hK K))
    iterate 2 (refine ae rfl rfl (fun K hK=>?_);go_simp;refine hK _ ?_;clear hK K)
    first|(refine aw rfl rfl ?_;simp only [Act.put,B6,B7,B8,B9,Ca,Cb])|(refine am rfl rfl (fun K hK=>?_);go_simp;refine hK _ ?_;clear hK K)
    refine ah rfl ?_
    refine bV rfl ?_
    simp only [Act.put,B6,B7,B8]
    refine wpList_nil ?_
    refine And.intro ?_ ?_
    ·go_simp
    iterate 2 (refine ae rfl rfl (fun K hK=>?_);go_simp;refine hK _ ?_;clear hK K)
    refine ai ?_
    go_wp2_with fail
    go_ret
    exact⟨rfl,tK.out.drew⟩
  ·have HV:=B5 (show cV c i v=false by unfold cV;rw [decide_eq_false h2];simp)
   rw [HV.out]
   clear HC HV
   go_enter Tryz.func66,Tryz.ntmps66
   go_upto_region 1 with fail
   rw [←tE.out]
   clear tE
   generalize w.heap.size=bx at uG ⊢
   refine af [(0,false,27),(1,false,27),(2,false,27),(3,false,27),(4,false,27),(5,false,27),(6,false,27),(7,false,27),(8,false,27),(9,false,27),(10,false,27),(11,false,27),(12,false,27),(13,false,27),(14,false,27),(15,false,27),(16,false,27),(17,false,27),(18,false,27),(19,false,27),(20,false,27),(21,false,27),(22,false,27),(23,false,27),(24,false,27),(25,false,27),(26,false,27),(27,true,0),(28,false,999),(29,false,999)] (by kernel_rfl) (by kernel_rfl) ?_
   iterate 3 (refine ae rfl rfl (fun K hK=>?_);go_simp;refine hK _ ?_;clear hK K)
   iterate 8 (first|(refine aw rfl rfl ?_;simp only [Act.put,B6,B7,B8,B9,Ca,Cb])|(refine am rfl rfl (fun K hK=>?_);go_simp;refine hK _ ?_;clear hK K))
   iterate 2 (refine ae rfl rfl (fun K hK=>?_);go_simp;refine hK _ ?_;clear hK K)
   iterate 11 (first|(refine aw rfl rfl ?_;simp only [Act.put,B6,B7,B8,B9,Ca,Cb])|(refine am rfl rfl (fun K hK=>?_);go_simp;refine hK _ ?_;clear hK K))
   iterate 2 (refine ae rfl rfl (fun K hK=>?_);go_simp;refine hK _ ?_;clear hK K)
   first|(refine aw rfl rfl ?_;simp only [Act.put,B6,B7,B8,B9,Ca,Cb])|(refine am rfl rfl (fun K hK=>?_);go_simp;refine hK _ ?_;clear hK K)
   refine ah rfl ?_
   refine bV rfl ?_
   simp only [Act.put,B6,B7,B8]
   refine wpList_nil ?_
   refine And.intro ?_ ?_
   ·go_simp
   iterate 2 (refine ae rfl rfl (fun K hK=>?_);go_simp;refine hK _ ?_;clear hK K)
   refine ai ?_
   go_wp2_with fail
   go_ret
   exact⟨rfl,tK.out.drew⟩
 ·have HV:=B5 (show cV c i v=false by unfold cV;rw [decide_eq_false h1];simp)
  rw [HV.out]
  clear HC HV
  go_enter Tryz.func66,Tryz.ntmps66
  go_upto_region 1 with fail
  rw [←tE.out]
  clear tE
  generalize w.heap.size=bx at uG ⊢
  refine af [(0,false,27),(1,false,27),(2,false,27),(3,false,27),(4,false,27),(5,false,27),(6,false,27),(7,false,27),(8,false,27),(9,false,27),(10,false,27),(11,false,27),(12,false,27),(13,false,27),(14,false,27),(15,false,27),(16,false,27),(17,false,27),(18,false,27),(19,false,27),(20,false,27),(21,false,27),(22,false,27),(23,false,27),(24,false,27),(25,false,27),(26,false,27),(27,true,0),(28,false,999),(29,false,999)] (by kernel_rfl) (by kernel_rfl) ?_
  iterate 3 (refine ae rfl rfl (fun K hK=>?_);go_simp;refine hK _ ?_;clear hK K)
  iterate 8 (first|(refine aw rfl rfl ?_;simp only [Act.put,B6,B7,B8,B9,Ca,Cb])|(refine am rfl rfl (fun K hK=>?_);go_simp;refine hK _ ?_;clear hK K))
  iterate 2 (refine ae rfl rfl (fun K hK=>?_);go_simp;refine hK _ ?_;clear hK K)
  iterate 11 (first|(refine aw rfl rfl ?_;simp only [Act.put,B6,B7,B8,B9,Ca,Cb])|(refine am rfl rfl (fun K hK=>?_);go_simp;refine hK _ ?_;clear hK K))
  iterate 2 (refine ae rfl rfl (fun K hK=>?_);go_simp;refine hK _ ?_;clear hK K)
  first|(refine aw rfl rfl ?_;simp only [Act.put,B6,B7,B8,B9,Ca,Cb])|(refine am rfl rfl (fun K hK=>?_);go_simp;refine hK _ ?_;clear hK K)
  refine ah rfl ?_
  refine bV rfl ?_
  simp only [Act.put,B6,B7,B8]
  refine wpList_nil ?_
  refine And.intro ?_ ?_
  ·go_simp
  iterate 2 (refine ae rfl rfl (fun K hK=>?_);go_simp;refine hK _ ?_;clear hK K)
  refine ai ?_
  go_wp2_with fail
  go_ret
  exact⟨rfl,tK.out.drew⟩
end Go.Proofs.YtdobimafhbfkhaaGreat
namespace Go.Proofs.YtdobimafhbfkhaaGreat
set_option linter.unusedSimpArgs false
structure SetM where
 col:Int
 op:Int
 frm:Int
 oth:Int
 v:Val
structure StmM where
 kind:Int
 level:Int
 table:Int
 key:Val
 row:List Val
 sets:List SetM
 pred:PredT
 save:Int
 cursor:Int
 change:Bool
structure AnsM where
 e:Int
 rows:List (List Val)
 n:Int
abbrev ar := List (List Val)
def aG (r:List Val):Val:=r.headD default
def aU (l:ar)(k:Val):Option (List Val):=l.find? (fun r=>decide (aG r=k))
def cA (l:ar)(r:List Val):ar:=l.filter (fun q=>decide (aj (aG q) (aG r)<0))++r::l.filter (fun q=>decide (0<aj (aG q) (aG r)))
def dj (l:ar)(k:Val):ar:=l.filter (fun q=>!decide (aj (aG q) k=0))
def cL (l:ar)(p:PredT)(s:Spn):ar:=l.filter (fun r=>bG s (aG r)&&p.holds r)
def az (c:List Bool)(i:Int):Int:=if i<0∨(c.length:Int)≤i then 0 else if c.getD i.toNat false then 2 else 1
def aW (c:List Bool)(s:SetM):Bool :=
 if s.col<1∨az c s.col=0 then false else
 if s.op=1 then al s.v&&decide (s.v.t=decide (az c s.col=2))else
 if s.op=2 then decide (az c s.frm=az c s.col)else
 if s.op=3∨s.op=4∨s.op=5 then decide (az c s.col=1)&&decide (az c s.frm=1)&&al s.v && !s.v.t else
 if s.op=6 then decide (az c s.col=1)&&decide (az c s.frm=1)&&decide (az c s.oth=1)else false
def mo (l:List SetM):Bool:=decide ((l.map SetM.col).Nodup)
def dn (c:List Bool)(l:List SetM):Bool:=cO c&&decide (l.length≤3)&&l.all (aW c)&&mo l
def fQ (n:Int):Bool:=decide (-9223372036854775808≤n)&&decide (n≤9223372036854775807)
def di (n:Int):Val:=⟨false,n,⟨#[]⟩⟩
def eM (r:List Val)(i:Int):Val:=r.getD i.toNat default
def toS (r:List Val)(s:SetM):Option Val :=
 if s.op=1 then some s.v else if s.op=2 then some (eM r s.frm)else
 let n:=if s.op=3 then (eM r s.frm).n+s.v.n else if s.op=4 then (eM r s.frm).n-s.v.n else if s.op=5 then (eM r s.frm).n*s.v.n else (eM r s.frm).n+(eM r s.oth).n
 if fQ n then some (di n)else none
def fY (r:List Val):List SetM→List Val→Option (List Val)
 | [],out=>some out
 | s::l,out=>match toS r s with
  | none=>none
  | some v=>fY r l (out.set s.col.toNat v)
def cG (c:List Bool)(r:List Val)(l:List SetM):List Val×Int :=
 if !bw c r then ([],1)else if !cO c then ([],1)else if !dn c l then ([],20)else match fY r l r with
  | none=>([],21)
  | some out=>(out,0)
def okS (cols:List (List Bool))(s:StmM):Bool :=
 let is:=decide (0≤s.table)&&decide (s.table<(cols.length:Int))&&cO (cols.getD s.table.toNat [])
 let c:=cols.getD s.table.toNat []
 let key:=is&&al s.key&&decide (s.key.t=c.getD 0 false)
 let holds:=is&&(cO c&&dB c s.pred)
 let sets:=is&&dn c s.sets
 let cursor:=decide (1≤s.cursor)&&decide (s.cursor≤2)
 if s.kind=4∨s.kind=5 then decide (1≤s.save)&&decide (s.save≤3)else
 if s.kind=6∨s.kind=9 then key else
 if s.kind=7 then is&&bw c s.row else
 if s.kind=8 then key&&sets else
 if s.kind=10∨s.kind=12 then holds else
 if s.kind=11 then holds&&sets else
 if s.kind=13 then holds&&cursor&&decide (s.pred.nodes.length≤13)else
 if 14≤s.kind∧s.kind≤17 then cursor else false
structure CurM where
 opn:Bool
 change:Bool
 stands:Bool
 table:Int
 p:PredT
 frm:Spn
 key:Val
def pred0 : PredT:=.mk 0 0 default default []
def bZ : Spn:=⟨false,false,false,default,false,false,default⟩
def lD : CurM:=⟨false,false,false,0,pred0,bZ,default⟩
structure BefM where
 table:Int
 key:Val
 r:List Val
structure TxM where
 cols:List (List Bool)
 tabs:List ar
 log:List BefM
 saves:List Int
 curs:List CurM
def bN (cols:List (List Bool))(tabs:List ar):TxM:=⟨cols,tabs,[],[0,0,0,0],[lD,lD,lD]⟩
def TxM.tab (x:TxM)(t:Int):ar:=x.tabs.getD t.toNat []
def TxM.col (x:TxM)(t:Int):List Bool:=x.cols.getD t.toNat []
def TxM.lay (x:TxM)(t:Int)(l:ar):TxM:={ x with tabs:=x.tabs.set t.toNat l }
def TxM.put (x:TxM)(t:Int)(r:List Val):TxM :=
 { x with log:=x.log ++ [⟨t,aG r,(aU (x.tab t) (aG r)).getD []⟩],tabs:=x.tabs.set t.toNat (cA (x.tab t) r) }
def TxM.out (x:TxM)(t:Int)(k:Val):TxM :=
 { x with log:=x.log ++ [⟨t,k,(aU (x.tab t) k).getD []⟩],tabs:=x.tabs.set t.toNat (dj (x.tab t) k) }
def TxM.hold (x:TxM)(t:Int)(p:PredT)(s:Spn):ar:=cL (x.tab t) p s
def cd (e:Int):AnsM:=⟨e,[],0⟩
def i8 (n:Int):AnsM:=⟨0,[],n⟩
def cz (c:List Bool)(sets:List SetM):List (List Val)→List (List Val)→List (List Val)×Int
 | [],out=>(out,0)
 | r::l,out=>if (cG c r sets).2=0 then cz c sets l (out ++ [(cG c r sets).1])else ([],(cG c r sets).2)
def TxM.all (x:TxM)(t:Int)(l:ar)(sets:List SetM):TxM×AnsM :=
 if (cz (x.col t) sets l []).2=0 then ((cz (x.col t) sets l []).1.foldl (fun y r=>y.put t r) x,i8 l.length)else (x,cd (cz (x.col t) sets l []).2)
def TxM.one (x:TxM)(t:Int)(k:Val)(sets:List SetM):TxM×AnsM:=match aU (x.tab t) k with
 | none=>(x,cd 61)
 | some r=>x.all t [r] sets
def TxM.drop (x:TxM)(t:Int)(k:Val):TxM×AnsM:=match aU (x.tab t) k with
 | none=>(x,cd 61)
 | some _=>(x.out t k,i8 1)
def eN (tabs:List ar)(b:BefM):List ar:=tabs.set b.table.toNat (if b.r.isEmpty then dj (tabs.getD b.table.toNat []) b.key else cA (tabs.getD b.table.toNat []) b.r)
def bK (tabs:List ar)(l:List BefM):List ar:=l.reverse.foldl eN tabs
def TxM.back (x:TxM)(n:Int):TxM×AnsM :=
 if x.saves.getD n.toNat 0=0 then (x,cd 70)else
 let at_:=x.saves.getD n.toNat 0
 ({ x with tabs:=bK x.tabs (x.log.drop (at_-1).toNat),log:=x.log.take (at_-1).toNat,saves:=x.saves.map (fun m=>if at_<m then 0 else m) },cd 0)
def TxM.cur (x:TxM)(n:Int):CurM:=x.curs.getD n.toNat lD
def TxM.setCur (x:TxM)(n:Int)(c:CurM):TxM:={ x with curs:=x.curs.set n.toNat c }
def TxM.fetch (x:TxM)(n:Int):TxM×AnsM :=
 if !(x.cur n).opn then (x,cd 161)else
 match x.hold (x.cur n).table (x.cur n).p (x.cur n).frm with
 | []=>(x.setCur n { x.cur n with stands:=false },cd 162)
 | r::_=>(x.setCur n { x.cur n with stands:=true,key:=aG r,frm:=⟨false,true,true,aG r,false,false,default⟩ },⟨0,[r],0⟩)
def TxM.at_ (x:TxM)(s:StmM):TxM×AnsM :=
 if !(x.cur s.cursor).opn || !(x.cur s.cursor).stands || !(x.cur s.cursor).change then (x,cd 161)else
 if s.kind=16 then x.drop (x.cur s.cursor).table (x.cur s.cursor).key else
 if !dn (x.col (x.cur s.cursor).table) s.sets then (x,cd 167)else x.one (x.cur s.cursor).table (x.cur s.cursor).key s.sets
def cu (x:TxM)(s:StmM):TxM×AnsM :=
 if !okS x.cols s then (x,cd 167)else
 if s.kind=4 then ({ x with saves:=x.saves.set s.save.toNat ((x.log.length:Int)+1) },cd 0)else
 if s.kind=5 then x.back s.save else
 if s.kind=6 then (x,match aU (x.tab s.table) s.key with
  | none=>cd 61
  | some r=>⟨0,[r],0⟩)else
 if s.kind=7 then (if (aU (x.tab s.table) (aG s.row)).isSome then (x,cd 60)else (x.put s.table s.row,i8 1))else
 if s.kind=8 then x.one s.table s.key s.sets else
 if s.kind=9 then x.drop s.table s.key else
 if s.kind=10 then (x,⟨0,x.hold s.table s.pred bZ,(x.hold s.table s.pred bZ).length⟩)else
 if s.kind=11 then x.all s.table (x.hold s.table s.pred bZ) s.sets else
 if s.kind=12 then ((x.hold s.table s.pred bZ).foldl (fun y r=>y.out s.table (aG r)) x,i8 (x.hold s.table s.pred bZ).length)else
 if s.kind=13 then (x.setCur s.cursor ⟨true,s.change,false,s.table,s.pred,bZ,default⟩,cd 0)else
 if s.kind=14 then x.fetch s.cursor else
 if s.kind=17 then (if (x.cur s.cursor).opn then (x.setCur s.cursor lD,cd 0)else (x,cd 161))else x.at_ s
def bY (x:TxM):List StmM→TxM×List AnsM
 | []=>(x,[])
 | s::l=>let y:=cu x s;let z:=bY y.1 l;(z.1,y.2::z.2)
structure OrM where
 cols:List (List Bool)
 tabs:List ar
def OrM.run (o:OrM)(l:List StmM):OrM×List AnsM:=let z:=bY (bN o.cols o.tabs) l;(⟨o.cols,z.1.tabs⟩,z.2)
def eS (cols:List (List Bool)):OrM:=⟨cols,List.replicate cols.length []⟩
def ff (cols:List (List Bool)):Bool:=decide (1≤cols.length)&&decide (cols.length≤3)&&cols.all cO
end Go.Proofs.YtdobimafhbfkhaaGreat
namespace Go.Proofs.YtdobimafhbfkhaaGreat
open Go.ChangeShapes Go.WideShapes Go.ChangeAt Go.RowKit
set_option maxRecDepth 100000
set_option linter.unusedSimpArgs false
abbrev cH : TypeId:=70
def SetM.cells (s:SetM):List Value:=[.int .i64 s.col,.int .i64 s.op,.int .i64 s.frm,.int .i64 s.oth,.bool s.v.t,.int .i64 s.v.n,.string s.v.s]
theorem SetM.len (s:SetM):s.cells.length=7:=rfl
theorem SetM.one (s:SetM):∀u∈s.cells,u.oneCell'=true:=by intro u hu;simp [SetM.cells]at hu;rcases hu with rfl|rfl|rfl|rfl|rfl|rfl|rfl<;>rfl
@[go_sem] theorem sizeSet (x:SetM):x.cells.toArray.size=7:=rfl
theorem pW {w:World}{g o:Nat}{x:SetM}(h:w.rangeAt g o x.cells):(loadVar cH ⟨g,o,none⟩).run Tryz.prog w = .ok (.agg x.cells.toArray) w:=run_loadVar_mid w g o _ _ _ h Tryz.underlying70 rfl (by kernel_rfl)
theorem aB {w:World}{b:Nat}{x:SetM}{t:TypeId}{fr:Nat×Nat}(h:w.heap[b]?=some (.cells x.cells.toArray t fr)) :
  w.cell? ⟨b,0,none⟩=some (.int .i64 x.col)∧w.cell? ⟨b,1,none⟩=some (.int .i64 x.op)∧w.cell? ⟨b,2,none⟩=some (.int .i64 x.frm)∧w.cell? ⟨b,3,none⟩=some (.int .i64 x.oth) ∧
   w.cell? ⟨b,4,none⟩=some (.bool x.v.t)∧w.cell? ⟨b,5,none⟩=some (.int .i64 x.v.n)∧w.cell? ⟨b,6,none⟩=some (.string x.v.s):=by
 refine⟨?_,?_,?_,?_,?_,?_,?_⟩<;>simp [World.cell?,h,SetM.cells]
theorem dr (c:List Bool)(i:Int):az c i=0∨az c i=1∨az c i=2:=by
 unfold az
 split
 ·exact .inl rfl
 ·split
  ·exact .inr (.inr rfl)
  ·exact .inr (.inl rfl)
theorem aM {w:World}{cv:Value}{c:List Bool}(h:bC w cv c)(i:Int) :
  Calls Tryz.prog 67 #[.agg #[cv],.int .i64 i] w fun e w'=>e = .returned (.int .i64 (az c i))∧Kept (fun _=>False) w w':=by
 have HK:=B5 (show Kept (fun _=>False) w (w.alloc (.cells #[cv] bH))from(Kept.refl _ _).alloc _)
 have HC:=B5 (Rd.kept h HK.out (fun _ _ h=>h))
 obtain⟨_,m1,ao,cap,rfl,_⟩:=h
 unfold maxLen at m1
 by_cases h0:i<0
 ·have HM:=B5 (show az c i=0 by unfold az;rw [if_pos (.inl h0)])
  go_enter Tryz.func67,Tryz.ntmps67
  go_wp2_with fail
  go_ret
  rw [HM.out]
  exact⟨rfl,HK.out⟩
 by_cases h1:(c.length:Int)≤i
 ·have HM:=B5 (show az c i=0 by unfold az;rw [if_pos (.inr h1)])
  go_enter Tryz.func67,Tryz.ntmps67
  go_wp2_with fail
  go_ret
  rw [HM.out]
  exact⟨rfl,HK.out⟩
 obtain⟨k,rfl⟩:∃k:Nat,i=(k:Int):=⟨i.toNat,by omega⟩
 obtain⟨x,hx⟩:∃x,c[k]?=some x:=⟨c[k]'(by omega),List.getElem?_eq_getElem _⟩
 obtain⟨cg,cog,rfl⟩:=ni HC.out hx rfl
 have hcc:=kA HC.out hx
 have hg:c.getD ((k:Int)).toNat false=x:=by rw [List.getD_eq_getElem?_getD,Int.toNat_natCast,hx];rfl
 have HM:=B5 (show az c k=if x then 2 else 1 by unfold az;rw [if_neg (by omega),hg])
 generalize hN:c.length=N at *
 have h2:¬(N:Int)≤(k:Int):=by omega
 have h3:(k:Int)<(N:Int):=by omega
 rw [HM.out]
 clear HC hx hg hN HM
 cases x
 all_goals
  go_enter Tryz.func67,Tryz.ntmps67
  go_wp2_with fail
  go_ret
  exact⟨rfl,HK.out⟩
end Go.Proofs.YtdobimafhbfkhaaGreat
