/- Joined texts: The tree: Get, by what the tree stands for. The tree as data: how deep, how many nodes. The tree as data: what is put or deleted at one key changes nothing at another one. An oracle in memory: tables whose trees hold rows' headers; the rows lie in what turns no more. What is looked up in a table, laid into it, taken out of it. A transaction in memory. A row is laid into a table, and noted (txn.put). A row is taken out of a table, and noted (txn.out). -/
import Derived.Test.YtdobimafhbfkhaaGreatOT30
import Derived.Test.YtdobimafhbfkhaaGreatOT25
import Derived.Test.YtdobimafhbfkhaaGreatOT15
import Derived.Test.YtdobimafhbfkhaaGreatOT9
import Derived.Test.YtdobimafhbfkhaaGreatOT24
set_option maxHeartbeats 64000000
namespace Go.Proofs.YtdobimafhbfkhaaGreat
open Go.ChangeShapes Go.WideShapes Go.ChangeAt Go.RowKit
set_option maxRecDepth 100000
set_option linter.unusedSimpArgs false
def ll (L:PL)(k:Val):Option (Val×VT):=L.find? (fun p=>decide (p.1=k))
def pw (L:PL)(k:Val):Bool:=(ll L k).isSome
def pL (L:PL)(k:Val):VT:=match ll L k with
 | some p=>p.2
 | none=>RowT.none
theorem sI {L:PL}{k:Val}{v:VT}(hs:bB L)(h:(k,v)∈L):ll L k=some (k,v):=by
 unfold ll
 cases hf:L.find? (fun p=>decide (p.1=k))with
 | none=>exact absurd (List.find?_eq_none.1 hf _ h) (by simp)
 | some q =>
  have h1:=List.mem_of_find?_eq_some hf
  have h2:q.1=k:=by have:=List.find?_some hf;simpa using this
  obtain⟨i,hi,hi2⟩:=List.mem_iff_getElem.1 h1
  obtain⟨j,hj,hj2⟩:=List.mem_iff_getElem.1 h
  rcases Nat.lt_trichotomy i j with hlt|rfl|hlt
  ·have:=List.pairwise_iff_getElem.1 hs i j hi hj hlt
   rw [hi2,hj2,h2]at this
   rw [cV]at this
   omega
  ·rw [←hi2,hj2]
  ·have:=List.pairwise_iff_getElem.1 hs j i hj hi hlt
   rw [hi2,hj2,h2]at this
   rw [cV]at this
   omega
theorem getP_no {L:PL}{k:Val}(h:cA L k=false):ll L k=none:=by
 unfold ll
 refine List.find?_eq_none.2 (fun x hx e=>?_)
 have e1:x.1=k:=by simpa using e
 have:=List.any_eq_false.1 h x hx
 rw [e1,cV]at this
 simp at this
theorem pO {L:PL}{k:Val}(hr:eY L)(hk:am k=false):ll L k=none:=by
 unfold ll
 refine List.find?_eq_none.2 (fun x hx e=>?_)
 have e1:x.1=k:=by simpa using e
 have:=hr x hx
 rw [e1,hk]at this
 cases this
theorem oP {T:TM}{k:Val}:∀(d i:Nat) (L:PL) (ids:List Nat),Rep T.nodes d i L ids→(∀m,T.nodes[i]?=some m→m.size≤4) →
  ∃(j:Nat) (m:NodeM) (A Bs:PL),T.Leads k d i j∧T.nodes[j]?=some m∧m.keys.length≤4∧m.vals.length=m.keys.length∧L=A++m.keys.zip m.vals++Bs∧(∀x∈A,ak x.1 k<0)∧(∀x∈Bs,ak k x.1<0)
 | 0,i,L,ids,⟨m,hm,h1,h2,h3,h4,h5⟩,hz=>by
  have hm4:=hz m hm
  have hkl:m.keys.length≤4:=by unfold NodeM.size at hm4;rw [h1,if_pos rfl]at hm4;exact hm4
  exact⟨i,m,[],[],.leaf hm h1,hm,hkl,h3,by simpa using h4,by simp,by simp⟩
 | d+1,i,L,ids,⟨m,hm,h1,h2,cs,h3,h4,h5,h6,h7,h8,h9⟩,hz=>by
  have hkids:m.kids.length≤4:=by have:=hz m hm;unfold NodeM.size at this;rw [h1]at this;simpa using this
  have hkc:m.kids.length=cs.length:=by rw [h3,List.length_map]
  obtain⟨A,c,Bs,rfl,e1,e2,e3,e4⟩:=kw k h4 h6 h7
  obtain⟨hr,m',hm',_,hf⟩:=h5 c (by simp)
  obtain⟨j,mj,A',B',g1,g2,g3,g4,g5,g6,g7⟩:=oP d c.id c.L c.ids hr (fun m'' hm''=>by rw [hm']at hm'';cases hm'';exact hf)
  refine⟨j,mj,A.flatMap Kid.L++A',B'++Bs.flatMap Kid.L,.inner hm h1 (by omega) (by rw [←e1,h3];simp) g1,g2,g3,g4,?_,?_,?_⟩
  ·rw [h8,List.flatMap_append,List.flatMap_cons,g5];simp
  ·intro x hx
   rcases List.mem_append.1 hx with hx|hx
   ·exact e2 x hx
   ·exact g6 x hx
  ·intro x hx
   rcases List.mem_append.1 hx with hx|hx
   ·exact g7 x hx
   ·exact e3 x hx
theorem Get_ok {B w:World}{D:PH}{t:Nat}{T:TM}{L:PL}{l:List HP}(k:Val)(hG:Good T L)(h:TreeA B D w t T l) :
  Calls Tryz.prog 93 #[.pointer (some ⟨t,0,none⟩),k.v] w fun e w'=>e = .returned (.tuple #[(pL L k).v,.bool (pw L k)])∧Kept (fun _=>False) w w':=by
 rcases hG.rep with ⟨hr0,rfl,hd0,hp⟩|⟨r,d,ids,m,hroot,hdep,hR,hp,hm,hm1,hm4⟩
 ·exact sM (k:=k) (h.nil_of hr0)
 ·obtain⟨j,mj,A,Bs,g1,g2,g3,g4,g5,g6,g7⟩:=oP (k:=k) d r L ids hR (fun m' hm'=>by rw [hm]at hm';cases hm';exact hm4)
  have key:=Get_at (k:=k) hroot g1 g2 (by omega) g4 h
  have hsz:bB (mj.keys.zip mj.vals):=gc (by rw [←g5];exact hG.sorted)
  have hsk:=d9 g4 hsz
  have e1:mj.has k=pw L k∧mj.get k=pL L k:=by
   unfold NodeM.has NodeM.get
   cases hk:am k
   ·unfold pw pL
    rw [pO hG.right hk]
    exact⟨rfl,rfl⟩
   ·cases hb:dI mj.keys k
    ·have h2:=(iE (v:=RowT.none) g4 hsz hb).2
     have h3:cA L k=false:=by rw [g5,iO g6 g7];exact h2
     unfold pw pL
     rw [getP_no h3]
     exact⟨rfl,rfl⟩
    ·obtain⟨x,hx,hx0⟩:=(fl (ks:=mj.keys) k).1 hb
     have hlt:=(List.getElem?_eq_some_iff.1 hx).1
     obtain⟨y,hy⟩:∃y,mj.vals[bq mj.keys k]?=some y:=⟨_,List.getElem?_eq_getElem (by omega)⟩
     have hz:(mj.keys.zip mj.vals)[bq mj.keys k]?=some (x,y):=List.getElem?_zip_eq_some.2 ⟨hx,hy⟩
     have hmem:(x,y)∈L:=by rw [g5];simp [List.mem_of_getElem? hz]
     obtain rfl:x=k:=jm (hG.right _ hmem) hk hx0
     unfold pw pL
     rw [sI hG.sorted hmem,List.getD_eq_getElem?_getD,hy]
     exact⟨rfl,rfl⟩
  rw [e1.1,e1.2]at key
  exact key
theorem nQ {d:Nat}:∀(cs:List Kid),(∀c∈cs,2 ^ d≤c.L.length∧c.ids.length+1≤c.L.length)→cs.length*2 ^ d≤(cs.flatMap Kid.L).length∧(cs.flatMap Kid.ids).length+cs.length≤(cs.flatMap Kid.L).length
 | [],_=>by simp
 | c::cs,h=>by
  obtain⟨h1,h2⟩:=nQ cs (fun c' hc'=>h c' (List.mem_cons_of_mem _ hc'))
  obtain⟨h3,h4⟩:=h c (List.mem_cons_self ..)
  rw [List.flatMap_cons,List.flatMap_cons,List.length_cons,List.length_append,List.length_append,Nat.add_mul,Nat.one_mul]
  omega
theorem qw {nodes:List NodeM}:∀ {d i:Nat} {L:PL} {ids:List Nat},Rep nodes d i L ids→(∃m,nodes[i]?=some m∧2≤m.size)→2 ^ (d+1)≤L.length∧ids.length+1≤L.length
 | 0,i,L,ids,⟨m,h,h1,h2,h3,h4,h5⟩,⟨m',h',hs⟩=>by
  rw [h]at h';cases h'
  unfold NodeM.size at hs
  rw [h1,if_pos rfl]at hs
  have:L.length=m.keys.length:=by rw [h4,List.length_zip,h3];omega
  rw [this,h5]
  simp;omega
 | d+1,i,L,ids,⟨m,h,h1,h2,cs,h3,h4,h5,_,_,h8,h9⟩,⟨m',h',hs⟩=>by
  rw [h]at h';cases h'
  unfold NodeM.size at hs
  rw [h1,h3,List.length_map]at hs
  obtain⟨g1,g2⟩:=nQ (d:=d+1) cs (fun c hc=>by
   obtain⟨hr,m1,hm1,hz,_⟩:=h5 c hc
   exact qw hr ⟨m1,hm1,hz⟩)
  have hs2:2≤cs.length:=by simpa using hs
  have h6:2*2 ^ (d+1)≤cs.length*2 ^ (d+1):=Nat.mul_le_mul_right _ hs2
  rw [h8,h9,List.length_cons,Nat.pow_succ 2 (d+1)]
  omega
theorem tJ {nodes:List NodeM}{d i:Nat}{L:PL}{ids:List Nat}{m:NodeM}(h:Rep nodes d i L ids)(hm:nodes[i]?=some m)(hz:(if m.leaf then 1 else 2)≤m.size):2 ^ d≤L.length∧ids.length≤L.length:=by
 cases d with
 | zero =>
  obtain⟨m',h',h1,h2,h3,h4,h5⟩:=h
  rw [hm]at h';cases h'
  rw [h1,if_pos rfl]at hz
  unfold NodeM.size at hz
  rw [h1,if_pos rfl]at hz
  have:L.length=m.keys.length:=by rw [h4,List.length_zip,h3];omega
  rw [this,h5]
  simp;omega
 | succ d =>
  have hl:m.leaf=false:=by
   obtain⟨m',h',h1,_⟩:=h
   rw [hm]at h';cases h'
   exact h1
  rw [hl]at hz
  have:=qw h ⟨m,hm,by simpa using hz⟩
  have h2:2 ^ (d+1)≤2 ^ (d+1+1):=Nat.pow_le_pow_right (by omega) (by omega)
  omega
structure Shape (T:TM)(L:PL):Prop where
 free:T.free.length≤T.nodes.length
 used:T.nodes.length≤T.free.length+L.length
 depth:(L = []∧T.k.depth=0∧T.nodes.length=T.free.length)∨(1≤L.length∧T.free.length+1≤T.nodes.length∧∃d:Nat,T.k.depth=(d:Int)+1∧2 ^ d≤L.length)
theorem Good.shape {T:TM}{L:PL}(h:Good T L):Shape T L:=by
 rcases h.rep with ⟨hr0,rfl,hd0,hp⟩|⟨r,d,ids,m,hroot,hdep,hR,hp,hm,hm1,hm4⟩
 ·have e:=hp.length_eq
  simp at e
  exact⟨by omega,by omega,.inl ⟨rfl,hd0,e.symm⟩⟩
 ·have e:=hp.length_eq
  have hpos:=List.length_pos_of_mem hR.self
  obtain⟨g1,g2⟩:=tJ hR hm hm1
  simp at e
  exact⟨by omega,by omega,.inr ⟨by omega,by omega,d,hdep,g1⟩⟩
theorem rC {d n:Nat}(h:2 ^ d≤n)(hn:n≤200):d≤7:=by
 by_cases hd:d≤7
 ·exact hd
 ·have:2 ^ 8≤2 ^ d:=Nat.pow_le_pow_right (by omega) (by omega)
  omega
abbrev tOr : TypeId:=84
def TblsAt (D:PH)(v:Value)(ts:List (List Bool)):Prop:=∃hs:List Value,hs.length=ts.length∧(∀u∈hs,u.oneCell'=true)∧RdP D 1 v ts.length hs∧∀(i:Nat) (h:Value) (r:List Bool),hs[i]?=some h→ts[i]?=some r→RdP D 1 h r.length (r.flatMap de)
def TblsRd (w:World)(v:Value)(ts:List (List Bool)):Prop:=∃hs:List Value,hs.length=ts.length∧Rd w 1 v ts.length hs∧∀(i:Nat) (h:Value) (r:List Bool),hs[i]?=some h→ts[i]?=some r→Rd w 1 h r.length (r.flatMap de)
theorem TblsAt.mono {D D':PH}(le:PH.le D D'){v:Value}{ts:List (List Bool)}(h:TblsAt D v ts):TblsAt D' v ts:=by
 obtain⟨hs,h1,h2,h3,h4⟩:=h
 exact⟨hs,h1,h2,h3.mono le,fun i u r a b=>(h4 i u r a b).mono le⟩
theorem TblsAt.rd {B w:World}{D:PH}{l:List HP}(hs:Sat B D w l){v:Value}{ts:List (List Bool)}(h:TblsAt D v ts):TblsRd w v ts:=by
 obtain⟨us,h1,h2,h3,h4⟩:=h
 exact⟨us,h1,h3.rd hs,fun i u r a b=>(h4 i u r a b).rd hs⟩
theorem TblsRd.kept {w w':World}(k:Kept (fun _=>False) w w'){v:Value}{ts:List (List Bool)}(h:TblsRd w v ts):TblsRd w' v ts:=by
 obtain⟨hs,h1,h2,h3⟩:=h
 exact⟨hs,h1,h2.kept k (fun _ _ h=>h),fun i u r a b=>(h3 i u r a b).kept k (fun _ _ h=>h)⟩
def ud (t:Nat)(T:TM):HP:=exP (fun x:Value×Value×List NP=>x.2.2.map Prod.snd=T.nodes) (fun x=>[blk t (aL x.1 x.2.1 T.k) tT,aF tN 4 x.1 x.2.2.length (x.2.2.flatMap aG),bi x.2.1 T.free,be (x.2.2.map bS)])
theorem TreeA.close {B w:World}{D:PH}{t:Nat}{T:TM}{l:List HP}(h:TreeA B D w t T l):Sat B D w (ud t T::l):=by
 obtain⟨nv,fv,ns,hns,hs⟩:=h
 exact Sat.close_ex (nv,fv,ns) hns hs
theorem iY {B w:World}{D:PH}{t:Nat}{T:TM}{l:List HP}(h:Sat B D w (ud t T::l)):TreeA B D w t T l:=by
 obtain⟨⟨nv,fv,ns⟩,hns,hs⟩:=Sat.open_ex h
 exact⟨nv,fv,ns,hns,hs⟩
theorem fj {α:Type}{f f':α→HP}:∀(L:List α),(∀x∈L,∀h,f x h→f' x h)→∀h,Holds (L.map f) h→Holds (L.map f') h
 | [],_,_,_=>trivial
 | x::L,hf,_,⟨h1,h2,a,b,c,d,e⟩=>⟨h1,h2,a,b,c,hf x (List.mem_cons_self ..) _ d,fj L (fun y hy=>hf y (List.mem_cons_of_mem _ hy)) _ e⟩
theorem ji {α β:Type}(f:α→β):∀(L:List α) (i:Nat),(L.eraseIdx i).map f=(L.map f).eraseIdx i
 | [],_=>by simp
 | x::L,0=>by simp
 | x::L,i+1=>by simp [ji f L i]
theorem ue {α:Type}{p p':α→Prop}{L:α→List HP}(hp:∀x,p x→p' x)(h:PH):exP p L h→exP p' L h:=fun ⟨x,h1,h2⟩=>⟨x,hp x h1,h2⟩
inductive RowsL (D:PH):PL→ay→Prop where
 | nil:RowsL D [] []
 | cons {k:Val} {v:VT} {r:List Val} {L:PL} {l:ay} (hk:k=aJ r) (hr:RowF D v.v r) (t:RowsL D L l):RowsL D ((k,v)::L) (r::l)
theorem RowsL.mono {D D':PH}(le:PH.le D D'){L:PL}{l:ay}(h:RowsL D L l):RowsL D' L l:=by
 induction h with
 | nil=>exact .nil
 | cons hk hr _ ih=>exact .cons hk (hr.mono le) ih
theorem RowsL.len {D:PH}{L:PL}{l:ay}(h:RowsL D L l):L.length=l.length:=by
 induction h with
 | nil=>rfl
 | cons _ _ _ ih=>rw [List.length_cons,List.length_cons,ih]
theorem RowsL.app {D:PH}{L L':PL}{l l':ay}(h:RowsL D L l)(h':RowsL D L' l'):RowsL D (L++L') (l++l'):=by
 induction h with
 | nil=>exact h'
 | cons hk hr _ ih=>exact .cons hk hr ih
theorem RowsL.filter {D:PH}(p:Val→Bool){L:PL}{l:ay}(h:RowsL D L l):RowsL D (L.filter (fun x=>p x.1)) (l.filter (fun r=>p (aJ r))):=by
 induction h with
 | nil=>exact .nil
 | @cons k v r L l hk hr _ ih =>
  rw [List.filter_cons,List.filter_cons]
  dsimp only
  rw [hk]
  cases p (aJ r)
  ·simpa using ih
  ·simpa using RowsL.cons rfl hr ih
theorem RowsL.put {D:PH}{L:PL}{l:ay}(h:RowsL D L l){v:VT}{r:List Val}(hr:RowF D v.v r):RowsL D (dn L (aJ r) v) (cF l r) :=
 (h.filter (fun k=>decide (ak k (aJ r)<0))).app (.cons rfl hr (h.filter (fun k=>decide (0<ak k (aJ r)))))
theorem RowsL.del {D:PH}{L:PL}{l:ay}(h:RowsL D L l)(k:Val):RowsL D (cK L k) (dx l k):=h.filter (fun x=>!decide (ak x k=0))
theorem RowsL.span {D:PH}{L:PL}{l:ay}(h:RowsL D L l)(s:Spn):RowsL D (inS s L) (l.filter (fun r=>bL s (aJ r))):=h.filter (fun x=>bL s x)
theorem RowsL.get {D:PH}{L:PL}{l:ay}(h:RowsL D L l)(k:Val):(ll L k=none∧aY l k=none)∨∃v r,ll L k=some (k,v)∧aY l k=some r∧RowF D v.v r:=by
 unfold ll aY
 induction h with
 | nil=>exact .inl ⟨rfl,rfl⟩
 | @cons k' v r L l hk hr _ ih =>
  rw [List.find?_cons,List.find?_cons]
  dsimp only
  rw [hk]
  by_cases hkk:aJ r=k
  ·rw [decide_eq_true hkk,←hkk]
   exact .inr ⟨v,r,rfl,rfl,hr⟩
  ·rw [decide_eq_false hkk]
   exact ih
theorem RowsL.at {D:PH}{L:PL}{l:ay}(h:RowsL D L l):∀ {i:Nat} {p:Val×VT},L[i]?=some p→∃r,l[i]?=some r∧p.1=aJ r∧RowF D p.2.v r:=by
 induction h with
 | nil=>intro i p hp;simp at hp
 | @cons k v r L l hk hr _ ih =>
  intro i p hp
  cases i with
  | zero=>simp at hp;subst hp;exact⟨r,rfl,hk,hr⟩
  | succ i=>exact ih (i:=i) (by simpa using hp)
structure TabR (D:PH)(T:TM)(L:PL)(l:ay):Prop where
 good:Good T L
 fit:T.nodes.length≤300
 len:l.length≤200
 rows:RowsL D L l
theorem TabR.small {D:PH}{T:TM}{L:PL}{l:ay}(h:TabR D T L l):Small T L 500:=by
 have h1:=h.good.shape
 have h2:=h.fit
 have h3:=h.len
 have h4:=h.rows.len
 refine⟨?_,Nat.le_trans h2 (by decide),by omega⟩
 rcases h1.depth with ⟨_,hd,_⟩|⟨_,_,d,hd,hp⟩
 ·omega
 ·have:=rC hp (by omega)
  omega
theorem TabR.next {D D':PH}{T T':TM}{L L':PL}{l l':ay}(h:TabR D T L l)(hn:Next T T' L L')(hr:RowsL D' L' l')(hl:l'.length≤200):TabR D' T' L' l':=by
 refine⟨hn.good,?_,hl,hr⟩
 rcases hn.room with h1|h1
 ·rw [h1];exact h.fit
 ·have h2:=hn.good.shape
  have h3:=hr.len
  have h4:=h2.used
  rw [h1,List.length_nil]at h4
  omega
def eQ (D:PH)(t:Nat)(l:ay):HP:=exP (fun x:TM×PL=>TabR D x.1 x.2 l) (fun x=>[ud t x.1])
theorem gP {D D':PH}(le:PH.le D D'){t:Nat}{l:ay}(h:PH):eQ D t l h→eQ D' t l h:=ue (fun _ h=>⟨h.good,h.fit,h.len,h.rows.mono le⟩) h
def dS (D:PH)(p:Nat×ay):HP:=eQ D p.1 p.2
def kB (t:Nat):Value:=.pointer (some ⟨t,0,none⟩)
structure OrH where
 tv:Value
 pv:Value
 ts:List Nat
def OrOk (D:PH)(O:OrM)(x:OrH):Prop:=TblsAt D x.tv O.cols∧RdP D 1 x.pv x.ts.length (x.ts.map kB)∧x.ts.length=O.tabs.length∧O.tabs.length=O.cols.length
def orL (D:PH)(o:Nat)(O:OrM)(x:OrH):List HP:=[blk o #[x.tv,x.pv] tOr,be ((x.ts.zip O.tabs).map (dS D))]
def orP (D:PH)(o:Nat)(O:OrM):HP:=exP (OrOk D O) (orL D o O)
section
variable {B w w' : World} {D D' : PH} {o : Nat} {O : OrM} {x : OrH} {l : List HP} {i t : Nat} {m m' : ay}
theorem fS (h:Sat B D w (orP D' o O::l)):∃x,OrOk D' O x∧Sat B D w (orL D' o O x++l):=Sat.open_ex h
theorem qg {x:OrH}(hx:OrOk D' O x)(h:Sat B D w (orL D' o O x++l)):Sat B D w (orP D' o O::l):=Sat.close_ex x hx h
theorem gT {D0:PH}(le:PH.le D D')(h:Sat B D0 w (orP D o O::l)):Sat B D0 w (orP D' o O::l):=by
 obtain⟨x,⟨h1,h2,h3,h4⟩,hs⟩:=fS h
 refine qg ⟨h1.mono le,h2.mono le,h3,h4⟩ ?_
 exact((Sat.swap hs).weaken (A':=be ((x.ts.zip O.tabs).map (dS D'))) (fun h=>fj _ (fun _ _ _ h=>gP le _ h) h)).swap
def tA (D:PH)(o:Nat)(O:OrM)(x:OrH)(i:Nat):List HP:=[blk o #[x.tv,x.pv] tOr,be (((x.ts.zip O.tabs).eraseIdx i).map (dS D))]
theorem i7 (hm:O.tabs[i]?=some m)(ht:x.ts[i]?=some t)(h:Sat B D w (orL D' o O x++l)):Sat B D w (eQ D' t m::(tA D' o O x i++l)):=by
 have hz:(x.ts.zip O.tabs)[i]?=some (t,m):=by rw [List.getElem?_zip_eq_some];exact⟨ht,hm⟩
 have hz2:((x.ts.zip O.tabs).map (dS D'))[i]?=some (eQ D' t m):=by rw [List.getElem?_map,hz];rfl
 have h1:=(Sat.front h 1 rfl).ungroup
 have h2:=h1.perm ((ft _ i _ hz2).append_right _)
 have h4:Sat B D w (eQ D' t m::(((x.ts.zip O.tabs).map (dS D')).eraseIdx i++(orL D' o O x++l).eraseIdx 1)):=h2
 have h5:=(h4.perm (List.perm_append_comm_assoc [eQ D' t m] _ _)).togroup
 rw [←ji]at h5
 exact h5.perm (List.perm_middle (l₁:=[eQ D' t m,blk o #[x.tv,x.pv] tOr]) (a:=be (((x.ts.zip O.tabs).eraseIdx i).map (dS D'))) (l₂:=l)).symm
theorem kd (hx:OrOk D' O x)(hm:O.tabs[i]?=some m)(ht:x.ts[i]?=some t)(h:Sat B D w (eQ D' t m'::(tA D' o O x i++l))):Sat B D w (orP D' o ⟨O.cols,O.tabs.set i m'⟩::l):=by
 have hz:(x.ts.zip O.tabs)[i]?=some (t,m):=by rw [List.getElem?_zip_eq_some];exact⟨ht,hm⟩
 have hset:x.ts.zip (O.tabs.set i m')=(x.ts.zip O.tabs).set i (t,m'):=by
  refine List.ext_getElem? fun j=>?_
  by_cases hj:i=j
  ·subst hj
   have hlt:=(List.getElem?_eq_some_iff.1 hz).1
   have hlt2:=(List.getElem?_eq_some_iff.1 hm).1
   rw [List.getElem?_set_self hlt,List.getElem?_zip_eq_some]
   exact⟨ht,List.getElem?_set_self hlt2⟩
  ·rw [List.getElem?_set_ne hj,List.zip_eq_zipWith,List.zip_eq_zipWith,List.getElem?_zipWith,List.getElem?_zipWith,List.getElem?_set_ne hj]
 refine qg (O:=⟨O.cols,O.tabs.set i m'⟩) (x:=x) ⟨hx.1,hx.2.1,by simpa using hx.2.2.1,by simpa using hx.2.2.2⟩ ?_
 have h1:Sat B D w (be (((x.ts.zip O.tabs).eraseIdx i).map (dS D'))::eQ D' t m'::blk o #[x.tv,x.pv] tOr::l) :=
  h.perm (List.perm_middle (l₁:=[eQ D' t m',blk o #[x.tv,x.pv] tOr]) (a:=be (((x.ts.zip O.tabs).eraseIdx i).map (dS D'))) (l₂:=l))
 have h3:=h1.ungroup.perm (List.perm_middle (l₁:=((x.ts.zip O.tabs).eraseIdx i).map (dS D')) (a:=eQ D' t m'))
 rw [ji]at h3
 have hz2:((x.ts.zip O.tabs).map (dS D'))[i]?=some (eQ D' t m):=by rw [List.getElem?_map,hz];rfl
 have h4:=h3.perm (((gl (eQ D' t m') _ i _ hz2).symm.append_right (blk o #[x.tv,x.pv] tOr::l)))
 have e:((x.ts.zip O.tabs).map (dS D')).set i (eQ D' t m')=(x.ts.zip (O.tabs.set i m')).map (dS D'):=by rw [hset,List.map_set];rfl
 rw [e]at h4
 exact h4.togroup.perm (List.perm_middle (l₁:=[blk o #[x.tv,x.pv] tOr]) (a:=be ((x.ts.zip (O.tabs.set i m')).map (dS D'))) (l₂:=l)).symm
theorem gI (hx:OrOk D' O x)(hm:O.tabs[i]?=some m)(hs:Sat B D' w l):∃t g og pc,x.ts[i]?=some t∧x.pv = .slice (some ⟨g,og,none⟩) O.tabs.length pc∧w.cell? ⟨g,og+i,none⟩=some (.pointer (some ⟨t,0,none⟩)):=by
 obtain⟨_,h2,h3,h4⟩:=hx
 have hlt:=(List.getElem?_eq_some_iff.1 hm).1
 obtain⟨t,ht⟩:∃t,x.ts[i]?=some t:=⟨x.ts[i]'(by omega),List.getElem?_eq_getElem _⟩
 obtain⟨po,pc,hpv⟩:=h2.shape
 have hp:=(h2.rd hs).2.2
 rcases hp with ⟨ao2,cap2,hq,_,_,_,hcell⟩
 rcases hcell with h0|⟨g,og,hg,hcc⟩
 ·omega
 ·rw [hpv]at hq
  cases hq
  subst hg
  exact⟨t,g,og,pc,ht,by rw [hpv,h3],hcc i _ (by rw [List.getElem?_map,ht];rfl)⟩
end
section
variable {B w w' : World} {D : PH} {o : Nat} {O : OrM} {x : OrH} {l : List HP} {i t : Nat} {m m' : ay}
theorem pP (k:Val)(hm:O.tabs[i]?=some m)(ht:x.ts[i]?=some t)(h:Sat B D w (orL D o O x++l)) :
  Calls Tryz.prog 93 #[.pointer (some ⟨t,0,none⟩),k.v] w fun e w'=>∃v,e = .returned (.tuple #[v,.bool (aY m k).isSome])∧RowF D v ((aY m k).getD [])∧Kept (fun _=>False) w w':=by
 obtain⟨⟨T,L⟩,hT,hsT⟩:=Sat.open_ex (i7 hm ht h)
 refine(Get_ok k hT.good (iY hsT)).mono ?_
 rintro e w' ⟨rfl,hk⟩
 rcases hT.rows.get k with ⟨h1,h2⟩|⟨v,r,h1,h2,h3⟩
 ·refine⟨.slice none 0 0,?_,?_,hk⟩
  ·unfold pL pw;rw [h1,h2];rfl
  ·rw [h2];exact⟨RdP.nil _ _,fun a ha=>by cases ha⟩
 ·refine⟨v.v,?_,?_,hk⟩
  ·unfold pL pw;rw [h1,h2];rfl
  ·rw [h2];exact h3
theorem tq (v:VT)(r:List Val)(hx:OrOk D O x)(hm:O.tabs[i]?=some m)(ht:x.ts[i]?=some t)(hr:RowF D v.v r)(hk:am (aJ r)=true)(hl:(cF m r).length≤200)(h:Sat B D w (orL D o O x++l)) :
  Calls Tryz.prog 92 #[.pointer (some ⟨t,0,none⟩),(aJ r).v,v.v] w fun e w'=>∃b,e = .returned (.bool b)∧Sat B D w' (orP D o ⟨O.cols,O.tabs.set i (cF m r)⟩::l):=by
 obtain⟨⟨T,L⟩,hT,hsT⟩:=Sat.open_ex (i7 hm ht h)
 refine(Put_ok (aJ r) v hT.good hT.small (Nat.le_refl _) (iY hsT)).mono ?_
 rintro e w' ⟨T',rfl,ha,hn⟩
 have hput:ri L (aJ r) v=dn L (aJ r) v:=by unfold ri;rw [hk,if_pos rfl]
 rw [hput]at hn
 have hT':=hT.next hn (hT.rows.put hr) hl
 exact⟨_,rfl,kd hx hm ht (Sat.close_ex (T',dn L (aJ r) v) hT' ha.close)⟩
theorem tH (k:Val)(hx:OrOk D O x)(hm:O.tabs[i]?=some m)(ht:x.ts[i]?=some t)(hk:am k=true)(h:Sat B D w (orL D o O x++l)) :
  Calls Tryz.prog 91 #[.pointer (some ⟨t,0,none⟩),k.v] w fun e w'=>∃b,e = .returned (.bool b)∧Sat B D w' (orP D o ⟨O.cols,O.tabs.set i (dx m k)⟩::l):=by
 obtain⟨⟨T,L⟩,hT,hsT⟩:=Sat.open_ex (i7 hm ht h)
 refine(qI k hT.good hT.small (Nat.le_refl _) (iY hsT)).mono ?_
 rintro e w' ⟨T',rfl,ha,hn⟩
 have hrem:mY L k=cK L k:=by unfold mY;rw [hk,if_pos rfl]
 rw [hrem]at hn
 have hT':=hT.next hn (hT.rows.del k) (Nat.le_trans (List.length_filter_le ..) hT.len)
 exact⟨_,rfl,kd hx hm ht (Sat.close_ex (T',cK L k) hT' ha.close)⟩
end
abbrev tTx : TypeId:=97
abbrev dm : TypeId:=147
structure BefE where
 table:Int
 key:Val
 r:VT
def BefE.cells (b:BefE):List Value:=[.int .i64 b.table,.bool b.key.t,.int .i64 b.key.n,.string b.key.s,b.r.v]
theorem BefE.len (b:BefE):b.cells.length=5:=rfl
theorem BefE.one (b:BefE):∀u∈b.cells,u.oneCell'=true:=by intro u hu;simp [BefE.cells]at hu;rcases hu with rfl|rfl|rfl|rfl|rfl<;>rfl
structure CurE where
 opn:Bool
 change:Bool
 stands:Bool
 table:Int
 pe:PredE
 frm:Spn
 key:Val
def CurE.cells (c:CurE):List Value:=[.bool c.opn,.bool c.change,.bool c.stands,.int .i64 c.table]++c.pe.cells++c.frm.cells.toList++c.key.cells
theorem CurE.len (c:CurE):c.cells.length=27:=rfl
def BefOk (D:PH)(b:BefE)(m:BefM):Prop:=b.table=m.table∧b.key=m.key∧RowF D b.r.v m.r
def nS (D:PH)(c:CurE)(m:CurM):Prop:=c.opn=m.opn∧c.change=m.change∧c.stands=m.stands∧c.table=m.table∧c.pe.p=m.p∧c.frm=m.frm∧c.key=m.key∧PredsAt D (.slice c.pe.la c.pe.ln c.pe.lc) c.pe.subs
inductive All2 {α β:Type}(R:α→β→Prop):List α→List β→Prop where
 | nil:All2 R [] []
 | cons {a:α} {b:β} {l:List α} {m:List β} (h:R a b) (t:All2 R l m):All2 R (a::l) (b::m)
theorem All2.imp {α β:Type}{R R':α→β→Prop}(hi:∀a b,R a b→R' a b){l:List α}{m:List β}(h:All2 R l m):All2 R' l m:=by
 induction h with
 | nil=>exact .nil
 | cons h _ ih=>exact .cons (hi _ _ h) ih
theorem All2.len {α β:Type}{R:α→β→Prop}{l:List α}{m:List β}(h:All2 R l m):l.length=m.length:=by
 induction h with
 | nil=>rfl
 | cons _ _ ih=>rw [List.length_cons,List.length_cons,ih]
theorem All2.snoc {α β:Type}{R:α→β→Prop}{l:List α}{m:List β}{a:α}{b:β}(h:All2 R l m)(hab:R a b):All2 R (l ++ [a]) (m ++ [b]):=by
 induction h with
 | nil=>exact .cons hab .nil
 | cons h _ ih=>exact .cons h ih
theorem All2.take {α β:Type}{R:α→β→Prop}{l:List α}{m:List β}(h:All2 R l m):∀n,All2 R (l.take n) (m.take n):=by
 induction h with
 | nil=>intro n;simp;exact .nil
 | cons h _ ih =>
  intro n
  cases n with
  | zero=>exact .nil
  | succ n=>exact .cons h (ih n)
theorem All2.get {α β:Type}{R:α→β→Prop}{l:List α}{m:List β}(h:All2 R l m):∀ {i:Nat} {a:α},l[i]?=some a→∃b,m[i]?=some b∧R a b:=by
 induction h with
 | nil=>intro i a h;simp at h
 | cons h _ ih =>
  intro i a hi
  cases i with
  | zero=>simp at hi;subst hi;exact⟨_,rfl,h⟩
  | succ i=>exact ih (by simpa using hi)
theorem All2.set {α β:Type}{R:α→β→Prop}{l:List α}{m:List β}{a:α}{b:β}(h:All2 R l m)(hab:R a b):∀i,All2 R (l.set i a) (m.set i b):=by
 induction h with
 | nil=>intro i;exact .nil
 | cons h t ih =>
  intro i
  cases i with
  | zero=>exact .cons hab t
  | succ i=>exact .cons h (ih i)
structure TxH where
 lv:Value
 es:List BefE
 cs:List CurE
def aO (o:Nat)(lv:Value)(sv:List Int)(cs:List CurE):Array Value:=(.pointer (some ⟨o,0,none⟩)::lv::(sv.map (Value.int .i64)++cs.flatMap CurE.cells)).toArray
structure TxOk (D:PH)(X:TxM)(H:TxH):Prop where
 log:All2 (BefOk D) H.es X.log
 curs:All2 (nS D) H.cs X.curs
 saves:X.saves.length=4
 three:X.curs.length=3
 small:X.log.length≤10000
def txL (D:PH)(x o:Nat)(X:TxM)(H:TxH):List HP:=[blk x (aO o H.lv X.saves H.cs) tTx,aF dm 5 H.lv H.es.length (H.es.flatMap BefE.cells),orP D o ⟨X.cols,X.tabs⟩]
def TxIn (B w:World)(D:PH)(x o:Nat)(X:TxM)(l:List HP):Prop:=∃H,TxOk D X H∧Sat B D w (txL D x o X H++l)
theorem TxOk.mono {D D':PH}(le:PH.le D D'){X:TxM}{H:TxH}(h:TxOk D X H):TxOk D' X H :=
 ⟨h.log.imp (fun _ _ ⟨a,b,c⟩=>⟨a,b,c.mono le⟩),h.curs.imp (fun _ _ ⟨a,b,c,d,e,f,g,i⟩=>⟨a,b,c,d,e,f,g,i.mono le⟩),h.saves,h.three,h.small⟩
section
variable {B w : World} {D D' : PH} {x o : Nat} {X : TxM} {H : TxH} {l : List HP}
theorem cW (h:Sat B D' w (txL D x o X H++l)):w.cell? ⟨x,0,none⟩=some (.pointer (some ⟨o,0,none⟩))∧w.cell? ⟨x,1,none⟩=some H.lv∧∀j,w.frozen? ⟨x,j,none⟩=false:=by
 have hb:=h.blk 0 rfl
 refine⟨?_,?_,fun j=>by simp [World.frozen?,hb]⟩<;>simp [World.cell?,hb,aO]
theorem gK (o:Nat)(lv lv':Value)(sv:List Int)(cs:List CurE):(aO o lv sv cs).setIfInBounds 1 lv'=aO o lv' sv cs:=by simp [aO]
theorem ik (h:Sat B D' w (txL D x o X H++l)):Sat B D' w (orP D o ⟨X.cols,X.tabs⟩::(blk x (aO o H.lv X.saves H.cs) tTx::aF dm 5 H.lv H.es.length (H.es.flatMap BefE.cells)::l)):=h.front 2 rfl
theorem fR (h:Sat B D' w (orP D o ⟨X.cols,X.tabs⟩::(blk x (aO o H.lv X.saves H.cs) tTx::aF dm 5 H.lv H.es.length (H.es.flatMap BefE.cells)::l))):Sat B D' w (txL D x o X H++l) :=
 h.perm (List.perm_middle (l₁:=[blk x (aO o H.lv X.saves H.cs) tTx,aF dm 5 H.lv H.es.length (H.es.flatMap BefE.cells)]) (a:=orP D o ⟨X.cols,X.tabs⟩) (l₂:=l)).symm
theorem dy {y:OrH}{O:OrM}(h:Sat B D' w (orL D o O y++l)):w.cell? ⟨o,0,none⟩=some y.tv∧w.cell? ⟨o,1,none⟩=some y.pv:=by
 obtain⟨a,b,_⟩:=bE (h.blk 0 rfl)
 exact⟨a,b⟩
end
abbrev tBefs : TypeId:=89
theorem qy : (Tryz.prog.info? dm).map (fun i=>(i.zero,i.size,i.bytes))=some (some (.agg #[.int .i64 0,.bool false,.int .i64 0,.string ⟨#[]⟩,.slice none 0 0]),5,64):=by kernel_rfl
theorem fQ {X:TxM}{i:Nat}{m:ay}(h:X.tabs[i]?=some m):X.tab (i:Int)=m:=by
 unfold TxM.tab
 rw [Int.toNat_natCast,List.getD_eq_getElem?_getD,h];rfl
theorem sW {B w:World}{D D' D0:PH}{o:Nat}{O:OrM}{y:OrH}{l:List HP}(le:PH.le D D')(h:Sat B D0 w (orL D o O y++l)):Sat B D0 w (orL D' o O y++l) :=
 ((Sat.swap h).weaken (A':=be ((y.ts.zip O.tabs).map (dS D'))) (fun h=>fj _ (fun _ _ _ h=>gP le _ h) h)).swap
theorem OrOk.mono {D D':PH}{O:OrM}{y:OrH}(le:PH.le D D')(h:OrOk D O y):OrOk D' O y:=⟨h.1.mono le,h.2.1.mono le,h.2.2⟩
theorem oT {B w:World}{D:PH}{x o i:Nat}{X:TxM}{l:List HP}{m:ay}{rv:Value}{r:List Val}{k:Val}(hm:X.tabs[i]?=some m)(hr:RowF D rv r)(h0:r[0]?=some k)(hk:am k=true)(hl:(cF m r).length≤200)(hb:X.log.length+1≤10000)(hrl:r.length≤1000000)(h:TxIn B w D x o X l) :
  Calls Tryz.prog 94 #[.pointer (some ⟨x,0,none⟩),.int .i64 i,rv] w fun e w'=>e = .returned (.tuple #[])∧∃D',PH.le D D'∧TxIn B w' D' x o (X.put i r) l:=by
 obtain⟨i0,hi,hz0,hz1,hz2⟩:=info_parts qy
 have HI:=CM (And.intro hi (And.intro hz0 (And.intro hz1 hz2)))
 clear hi hz0 hz1 hz2
 have hkr:aJ r=k:=by unfold aJ;rw [←List.head?_eq_getElem?]at h0;cases r with|nil=>cases h0|cons a t=>simp at h0;subst h0;rfl
 obtain⟨H,hH,hs⟩:=h
 have HH:=CM hH
 obtain⟨c0,c1,cf⟩:=cW hs
 obtain⟨y,hy,hs2⟩:=fS (ik hs)
 have HY:=CM hy
 obtain⟨d0,d1⟩:=dy hs2
 obtain⟨t,g,og,pc,ht,hpv,hpc⟩:=gI hy hm hs2
 rw [hpv]at d1
 have hlt:(i:Int)<(X.tabs.length:Int):=by have:=(List.getElem?_eq_some_iff.1 hm).1;omega
 have HG:=CM (pP k hm ht hs2.drew)
 have ur:=CM hs2
 have HRR:=CM (RdP.rd hr.1 hs2)
 obtain⟨ao,rc,rfl⟩:∃ao rc,rv = .slice ao r.length rc:=by obtain⟨_,_,ao,rc,h,_⟩:=hr.1;exact⟨ao,rc,h⟩
 obtain⟨rg,rog,rfl⟩:=ef HRR.out h0 rfl
 obtain⟨y0,y1,y2⟩:=aM (h:=0) HRR.out h0
 have hlen2:0<r.length:=(List.getElem?_eq_some_iff.1 h0).1
 have hlen:(0:Int)<(r.length:Int):=by omega
 rw [Nat.zero_mul,Nat.add_zero]at y0 y1 y2
 have HM:=CM hm
 have HR:=CM hr
 have HT:=CM ht
 have Co:=CM hpv
 have HB:=CM hb
 have HL:=CM hl
 have HK:=CM hk
 have xE:=CM hkr
 have H0:=CM h0
 generalize hRN:r.length=RN at *
 have yp:=CM hRN
 generalize hTN:X.tabs.length=TN at *
 have xu:=CM hTN
 have yA:=CM hrl
 clear hm hr ht hpv hb hl hk hkr h0 hH hs hs2 hy hRN hTN hrl
 go_enter Tryz.func94,Tryz.ntmps94
 go_upto_region 0 with fail
 refine af [(0,false,13),(1,false,13),(2,false,13),(3,false,13),(4,false,13),(5,false,13),(6,false,13),(7,false,13),(8,false,13),(9,false,13),(10,false,13),(11,false,13),(12,false,13),(13,true,0),(14,false,999),(15,false,999),(16,false,999),(17,false,999),(18,false,999)] (by kernel_rfl) (by kernel_rfl) ?_
 iterate 13 (refine ae rfl rfl (fun K hK=>?_);go_simp;refine hK _ ?_;clear hK K)
 refine ag rfl ?_
 refine au rfl (fun K hK=>?_)
 go_simp
 refine(HG.out.mono ?_)
 rintro e1 w1 ⟨v,rfl,hwas,hk1⟩
 obtain⟨ra,rn,rcc,rfl⟩:∃a n c,v = .slice a n c:=by obtain⟨_,_,ao,rc,h,_⟩:=hwas.1;exact⟨ao,_,rc,h⟩
 have zm:=CM hwas
 have ut:=CM (ur.out.drew.kept hk1)
 clear hwas hk1 ur HG c0 c1 cf d0 d1 y0 y1 y2
 refine hK _ _ ?_
 clear hK K
 refine wpList_nil ?_
 refine And.intro ?_ ?_
 ·go_simp
 iterate 5 (refine ae rfl rfl (fun K hK=>?_);go_simp;refine hK _ ?_;clear hK K)
 refine ah ?_
 obtain⟨la,lc,hlv⟩:=(ut.out.front 3 rfl).own_shape
 have AI:=CM hlv
 obtain⟨N,hN⟩:∃N,H.es.length=N:=⟨_,rfl⟩
 have HN:=CM hN
 have hNb:N+1≤10000:=by have h1:=HH.out.log.len;have h2:=HB.out;omega
 have uy:=CM (show Sat B D w1 (orL D o ⟨X.cols,X.tabs⟩ y++(blk x (aO o (.slice la N lc) X.saves H.cs) tTx::aF dm 5 (.slice la N lc) N (H.es.flatMap BefE.cells)::l)) by rw [←hN,←hlv];exact ut.out)
 obtain⟨en,hen⟩:∃en:BefE,en=⟨(i:Int),k,⟨ra,rn,rcc⟩⟩:=⟨_,rfl⟩
 have yB:=CM (show #[Value.int .i64 (i:Int),.bool k.t,.int .i64 k.n,.string k.s,.slice ra rn rcc]=en.cells.toArray by rw [hen];rfl)
 have Bi:=CM hen
 have vf:=CM (uy.out.blk 2 rfl)
 have c1:w1.cell? ⟨x,1,none⟩=some (.slice la N lc):=by simp [World.cell?,vf.out,aO]
 have Aj:=CM (RdP.rd HR.out.1 uy.out)
 obtain⟨y0,y1,y2⟩:=aM (h:=0) (show Rd w1 3 (.slice (some ⟨rg,rog,none⟩) RN rc) RN (r.flatMap Val.cells)from yp.out▸Aj.out) H0.out
 rw [Nat.zero_mul,Nat.add_zero]at y0 y1 y2
 clear hlv hN ut hpc hen vf
 go_upto_region 1 with fail
 refine af [(0,false,15),(1,false,12),(2,false,12),(3,false,12),(4,false,12),(5,false,11),(6,false,11),(7,false,11),(8,false,11),(9,false,11),(10,false,11),(11,true,0),(12,true,0),(13,false,15),(14,false,15),(15,true,0)] (by kernel_rfl) (by kernel_rfl) ?_
 iterate 11 (refine ae rfl rfl (fun K hK=>?_);go_simp;refine hK _ ?_;clear hK K)
 refine ag rfl ?_
 rw [yB.out]
 refine d8 rfl _ _ rfl dm i0 _ en.cells rfl Tryz.underlying89 HI.out.1 HI.out.2.1 (HI.out.2.2.1.trans rfl) (by rw [BefE.len];decide) (by rw [BefE.len];decide) ?_
 refine wpList_nil ?_
 obtain⟨W4,hW4,hs4⟩:=Sat.hide (uy.out.drew.alloc en.cells.toArray dm)
 rw [←hW4]
 clear hW4 uy c1 y0 y1 y2 Aj
 generalize w1.drew.heap.size=bz at hs4 ⊢
 have uw:=CM (cd (size:=5) (n:=1) (hs4.blk 0 rfl) (by simp [BefE.len]) (by unfold maxLen;omega))
 have Ak:=CM (RdP.rd HR.out.1 hs4)
 have vf:=CM (hs4.blk 3 rfl)
 have c1:W4.cell? ⟨x,1,none⟩=some (.slice la N lc):=by simp [World.cell?,vf.out,aO]
 obtain⟨y0,y1,y2⟩:=aM (h:=0) (show Rd W4 3 (.slice (some ⟨rg,rog,none⟩) RN rc) RN (r.flatMap Val.cells)from yp.out▸Ak.out) H0.out
 rw [Nat.zero_mul,Nat.add_zero]at y0 y1 y2
 have uA:=CM (show Sat B D W4 (aF dm 5 (.slice la N lc) N (H.es.flatMap BefE.cells)::blk bz en.cells.toArray dm::(orL D o ⟨X.cols,X.tabs⟩ y++(blk x (aO o (.slice la N lc) X.saves H.cs) tTx::l)))from hs4.front 4 rfl)
 clear hs4 vf Ak
 refine And.intro ?_ ?_
 ·go_simp;first|done|exact yB.out
 refine ag rfl ?_
 refine aI _ rfl _ _ tBefs rfl dm i0 _ 5 64 Tryz.underlying89 HI.out.1 HI.out.2.1 HI.out.2.2.1 HI.out.2.2.2 rfl _ N _ rfl uA.out _ 1 _ rfl uw.out (by simpa using BefE.one en) (by unfold maxLen;omega) (by omega) ?_
 intro v7 w7 hs7 h17
 refine wpList_nil ?_
 clear c1 y0 y1 y2 uA uw
 obtain⟨va,vc,rfl⟩:∃va vc,v7 = .slice va (N+1) vc:=hs7.own_shape
 have uu:=CM (show Sat B D w7 (blk x (aO o (.slice la N lc) X.saves H.cs) tTx::aF dm 5 (.slice va (N+1) vc) (N+1) (H.es.flatMap BefE.cells++en.cells.toArray.toList)::blk bz en.cells.toArray dm::(orL D o ⟨X.cols,X.tabs⟩ y++l))from hs7.front 4 rfl)
 have vf:=CM (uu.out.blk 0 rfl)
 have c1:w7.cell? ⟨x,1,none⟩=some (.slice la N lc):=by simp [World.cell?,vf.out,aO]
 have cf:∀j,w7.frozen? ⟨x,j,none⟩=false:=fun j=>by simp [World.frozen?,vf.out]
 have vb:=CM (show Sat B D (w7.setCell ⟨x,1,none⟩ (.slice va (N+1) vc)) (blk x (aO o (.slice va (N+1) vc) X.saves H.cs) tTx::aF dm 5 (.slice va (N+1) vc) (N+1) (H.es.flatMap BefE.cells++en.cells.toArray.toList)::blk bz en.cells.toArray dm::(orL D o ⟨X.cols,X.tabs⟩ y++l))from gK o (.slice la N lc) (.slice va (N+1) vc) X.saves H.cs▸Sat.set uu.out 1 (.slice va (N+1) vc))
 clear hs7 h17 vf uu
 refine And.intro ?_ ?_
 ·go_simp
 iterate 2 (refine ae rfl rfl (fun K hK=>?_);go_simp;refine hK _ ?_;clear hK K)
 refine ag rfl ?_
 refine wpList_plain rfl (fun K hK=>?_)
 go_simp
 refine hK _ _ ?_
 clear hK K
 refine wpList_nil ?_
 refine And.intro ?_ ?_
 ·go_simp
 refine ah ?_
 obtain⟨W8,hW8⟩:∃W,W=w7.setCell ⟨x,1,none⟩ (.slice va (N+1) vc):=⟨_,rfl⟩
 rw [←hW8]at vb ⊢
 clear hW8 c1 cf
 have uD:=CM (show Sat B D W8 (orL D o ⟨X.cols,X.tabs⟩ y++(blk x (aO o (.slice va (N+1) vc) X.saves H.cs) tTx::aF dm 5 (.slice va (N+1) vc) (N+1) (H.es.flatMap BefE.cells++en.cells.toArray.toList)::l))from((vb.out.front 2 rfl).drop.front 2 rfl).front 3 rfl |>.front 1 rfl)
 clear vb
 obtain⟨t2,g2,og2,pc2,ht2,hpv2,hpc2⟩:=gI HY.out HM.out uD.out
 obtain⟨d0,d1⟩:=dy uD.out
 rw [hpv2]at d1
 have Bj:=CM hpv2
 have Cp:=CM hpc2
 have uJ:=CM ht2
 have vf:=CM (uD.out.blk 2 rfl)
 have c0:W8.cell? ⟨x,0,none⟩=some (.pointer (some ⟨o,0,none⟩)):=by simp [World.cell?,vf.out,aO]
 rw [show List.length (OrM.tabs ⟨X.cols,X.tabs⟩)=TN from xu.out]at d1
 have Al:=CM (RdP.rd HR.out.1 uD.out)
 obtain⟨y0,y1,y2⟩:=aM (h:=0) (show Rd W8 3 (.slice (some ⟨rg,rog,none⟩) RN rc) RN (r.flatMap Val.cells)from yp.out▸Al.out) H0.out
 rw [Nat.zero_mul,Nat.add_zero]at y0 y1 y2
 have wT:=CM (gZ (RdP.rd HR.out.1 uD.out.drew) (yp.out.symm▸yA.out) uD.out.drew)
 clear ht2 hpv2 vf uD Al
 go_upto_region 2 with fail
 refine af [(0,false,15),(1,false,15),(2,false,15),(3,false,15),(4,false,15),(5,false,15),(6,false,15),(7,false,15),(8,false,15),(9,false,15),(10,false,15),(11,false,15),(12,false,15),(13,false,14),(14,true,0),(15,true,0)] (by kernel_rfl) (by kernel_rfl) ?_
 iterate 14 (refine ae rfl rfl (fun K hK=>?_);go_simp;refine hK _ ?_;clear hK K)
 refine ag rfl ?_
 refine au rfl (fun K hK=>?_)
 go_simp
 refine wT.out.mono ?_
 rintro e9 w9 ⟨v9,rfl,hs9⟩
 obtain⟨D9,hle,hrd9,hs9⟩:=hs9.own_give
 have uF:=CM hle
 have Bk:=CM (show RowF D9 v9 r from⟨hrd9,HR.out.2⟩)
 have vt:=CM (sW hle hs9)
 have BV:=CM (HY.out.mono hle)
 obtain⟨a9,n9,b9,rfl⟩:∃a n c,v9 = .slice a n c:=by obtain⟨_,_,ao,rc,h,_⟩:=hrd9;exact⟨ao,_,rc,h⟩
 clear wT c0 d0 d1 y0 y1 y2 hpc2 hle hrd9 hs9
 obtain⟨t3,g3,og3,pc3,ht3,hpv3,hpc3⟩:=gI BV.out HM.out vt.out
 obtain rfl:t3=t2:=Option.some.inj (ht3.symm.trans uJ.out)
 have hpe:=hpv3.symm.trans Bj.out
 cases hpe
 obtain⟨d0,d1⟩:=dy vt.out
 rw [hpv3]at d1
 rw [show List.length (OrM.tabs ⟨X.cols,X.tabs⟩)=TN from xu.out]at d1
 have vf:=CM (vt.out.blk 2 rfl)
 have c0:w9.cell? ⟨x,0,none⟩=some (.pointer (some ⟨o,0,none⟩)):=by simp [World.cell?,vf.out,aO]
 have Am:=CM (RdP.rd (HR.out.mono uF.out).1 vt.out)
 obtain⟨y0,y1,y2⟩:=aM (h:=0) (show Rd w9 3 (.slice (some ⟨rg,rog,none⟩) RN rc) RN (r.flatMap Val.cells)from yp.out▸Am.out) H0.out
 rw [Nat.zero_mul,Nat.add_zero]at y0 y1 y2
 have xw:=CM (tq ⟨a9,n9,b9⟩ r BV.out HM.out ht3 Bk.out (xE.out.symm▸HK.out) HL.out vt.out)
 rw [xE.out]at xw
 clear ht3 hpv3 vf Am
 refine hK _ _ ?_
 clear hK K
 refine wpList_nil ?_
 refine And.intro ?_ ?_
 ·go_simp
 refine ag rfl ?_
 refine au rfl (fun K hK=>?_)
 go_simp
 refine xw.out.mono ?_
 rintro eA wA ⟨bA,rfl,hsA⟩
 have HSB:=CM hsA
 clear hsA xw vt c0 d0 d1 y0 y1 y2 hpc3
 refine hK _ _ ?_
 clear hK K
 refine wpList_nil ?_
 refine And.intro ?_ ?_
 ·go_simp
 refine ah ?_
 go_wp2_with fail
 go_end0
 have hX:X.put (i:Int) r=⟨X.cols,X.tabs.set i (cF m r),X.log ++ [⟨(i:Int),k,(aY m k).getD []⟩],X.saves,X.curs⟩:=by
  unfold TxM.put
  rw [fQ HM.out,xE.out]
  rfl
 rw [hX]
 have hok:=HH.out.mono uF.out
 refine⟨rfl,D9,uF.out,⟨.slice va (N+1) vc,H.es ++ [en],H.cs⟩,⟨?_,hok.curs,hok.saves,hok.three,?_⟩,?_⟩
 ·refine hok.log.snoc ?_
  rw [Bi.out]
  exact⟨rfl,rfl,zm.out.mono uF.out⟩
 ·rw [List.length_append];exact HB.out
 ·refine fR (X:=⟨X.cols,X.tabs.set i (cF m r),X.log ++ [⟨(i:Int),k,(aY m k).getD []⟩],X.saves,X.curs⟩) (H:=⟨.slice va (N+1) vc,H.es ++ [en],H.cs⟩) ?_
  show Sat B D9 wA (_::_::aF dm 5 _ (H.es ++ [en]).length ((H.es ++ [en]).flatMap BefE.cells)::l)
  rw [List.length_append,HN.out,List.flatMap_append,List.flatMap_singleton]
  exact HSB.out
theorem oG {B w:World}{D:PH}{x o i:Nat}{X:TxM}{l:List HP}{m:ay}{k:Val}(hm:X.tabs[i]?=some m)(hk:am k=true)(hb:X.log.length+1≤10000)(h:TxIn B w D x o X l) :
  Calls Tryz.prog 98 #[.pointer (some ⟨x,0,none⟩),.int .i64 i,k.v] w fun e w'=>e = .returned (.tuple #[])∧TxIn B w' D x o (X.out i k) l:=by
 obtain⟨i0,hi,hz0,hz1,hz2⟩:=info_parts qy
 have HI:=CM (And.intro hi (And.intro hz0 (And.intro hz1 hz2)))
 clear hi hz0 hz1 hz2
 obtain⟨H,hH,hs⟩:=h
 have HH:=CM hH
 obtain⟨y,hy,hs1⟩:=fS (ik hs)
 have HY:=CM hy
 obtain⟨W0,hW0,hs2⟩:=Sat.hide (hs1.alloc k.cells.toArray tV)
 have uI:=CM (show W0=w.alloc (.cells #[.bool k.t,.int .i64 k.n,.string k.s] tV)from hW0)
 have hs2:Sat B D W0 (orL D o ⟨X.cols,X.tabs⟩ y++(blk w.heap.size k.cells.toArray tV::blk x (aO o H.lv X.saves H.cs) tTx::aF dm 5 H.lv H.es.length (H.es.flatMap BefE.cells)::l)):=((hs2.front 1 rfl).front 2 rfl).front 1 rfl
 obtain⟨d0,d1⟩:=dy hs2
 obtain⟨t,g,og,pc,ht,hpv,hpc⟩:=gI hy hm hs2
 rw [hpv]at d1
 have hlt:(i:Int)<(X.tabs.length:Int):=by have:=(List.getElem?_eq_some_iff.1 hm).1;omega
 have Bl:=CM (show W0.heap[w.heap.size]?=some (.cells #[.bool k.t,.int .i64 k.n,.string k.s] tV (0,0))from hs2.blk 2 rfl)
 have An:=CM (hs2.blk 3 rfl)
 have HG:=CM (pP k hm ht hs2.drew)
 have ur:=CM hs2
 have HM:=CM hm
 have HT:=CM ht
 have Co:=CM hpv
 have HB:=CM hb
 have HK:=CM hk
 have ww:=CM hpc
 have D1:=CM d1
 generalize hTN:X.tabs.length=TN at *
 have xu:=CM hTN
 clear hm ht hpv hb hk hH hs hs1 hs2 hy hTN hW0 hpc d1 d0
 go_enter Tryz.func98,Tryz.ntmps98
 go_upto_region 1 with fail
 rw [←uI.out]
 clear uI
 generalize w.heap.size=bk at Bl ur ⊢
 obtain⟨x0,x1,x2,xf⟩:=aT Bl.out
 have c0:W0.cell? ⟨x,0,none⟩=some (.pointer (some ⟨o,0,none⟩)):=by simp [World.cell?,An.out,aO]
 have hpc:=ww.out
 have d1:=D1.out
 refine af [(0,false,11),(1,false,11),(2,false,11),(3,false,11),(4,false,11),(5,false,11),(6,false,11),(7,false,11),(8,false,11),(9,false,11),(10,false,11),(11,true,0),(12,false,999),(13,false,999),(14,false,999),(15,false,999),(16,false,999)] (by kernel_rfl) (by kernel_rfl) ?_
 iterate 11 (refine ae rfl rfl (fun K hK=>?_);go_simp;refine hK _ ?_;clear hK K)
 refine ag rfl ?_
 refine au rfl (fun K hK=>?_)
 go_simp
 refine(HG.out.mono ?_)
 rintro e1 w1 ⟨v,rfl,hwas,hk1⟩
 obtain⟨ra,rn,rcc,rfl⟩:∃a n c,v = .slice a n c:=by obtain⟨_,_,ao,rc,h,_⟩:=hwas.1;exact⟨ao,_,rc,h⟩
 have zm:=CM hwas
 have ut:=CM (ur.out.drew.kept hk1)
 clear hwas hk1 ur HG c0 d1 x0 x1 x2 xf hpc Bl An
 refine hK _ _ ?_
 clear hK K
 refine wpList_nil ?_
 refine And.intro ?_ ?_
 ·go_simp
 iterate 5 (refine ae rfl rfl (fun K hK=>?_);go_simp;refine hK _ ?_;clear hK K)
 refine ah ?_
 obtain⟨la,lc,hlv⟩:=(ut.out.front 4 rfl).own_shape
 have AI:=CM hlv
 obtain⟨N,hN⟩:∃N,H.es.length=N:=⟨_,rfl⟩
 have HN:=CM hN
 have hNb:N+1≤10000:=by have h1:=HH.out.log.len;have h2:=HB.out;omega
 have uy:=CM (show Sat B D w1 (orL D o ⟨X.cols,X.tabs⟩ y++(blk bk k.cells.toArray tV::blk x (aO o (.slice la N lc) X.saves H.cs) tTx::aF dm 5 (.slice la N lc) N (H.es.flatMap BefE.cells)::l)) by rw [←hN,←hlv];exact ut.out)
 obtain⟨en,hen⟩:∃en:BefE,en=⟨(i:Int),k,⟨ra,rn,rcc⟩⟩:=⟨_,rfl⟩
 have yB:=CM (show #[Value.int .i64 (i:Int),.bool k.t,.int .i64 k.n,.string k.s,.slice ra rn rcc]=en.cells.toArray by rw [hen];rfl)
 have Bi:=CM hen
 have vf:=CM (uy.out.blk 3 rfl)
 have c1:w1.cell? ⟨x,1,none⟩=some (.slice la N lc):=by simp [World.cell?,vf.out,aO]
 obtain⟨x0,x1,x2,xf⟩:=aT (show w1.heap[bk]?=some (.cells #[.bool k.t,.int .i64 k.n,.string k.s] tV (0,0))from uy.out.blk 2 rfl)
 clear hlv hN ut hen vf
 go_upto_region 2 with fail
 refine af [(0,false,13),(1,false,10),(2,false,10),(3,false,10),(4,false,10),(5,false,9),(6,false,9),(7,false,9),(8,false,9),(9,true,0),(10,true,0),(11,false,13),(12,false,13),(13,true,0)] (by kernel_rfl) (by kernel_rfl) ?_
 iterate 9 (refine ae rfl rfl (fun K hK=>?_);go_simp;refine hK _ ?_;clear hK K)
 refine ag rfl ?_
 rw [yB.out]
 refine d8 rfl _ _ rfl dm i0 _ en.cells rfl Tryz.underlying89 HI.out.1 HI.out.2.1 (HI.out.2.2.1.trans rfl) (by rw [BefE.len];decide) (by rw [BefE.len];decide) ?_
 refine wpList_nil ?_
 obtain⟨W4,hW4,hs4⟩:=Sat.hide (uy.out.drew.alloc en.cells.toArray dm)
 rw [←hW4]
 clear hW4 uy c1 x0 x1 x2 xf
 generalize w1.drew.heap.size=bz at hs4 ⊢
 have uw:=CM (cd (size:=5) (n:=1) (hs4.blk 0 rfl) (by simp [BefE.len]) (by unfold maxLen;omega))
 have vf:=CM (hs4.blk 4 rfl)
 have c1:W4.cell? ⟨x,1,none⟩=some (.slice la N lc):=by simp [World.cell?,vf.out,aO]
 obtain⟨x0,x1,x2,xf⟩:=aT (show W4.heap[bk]?=some (.cells #[.bool k.t,.int .i64 k.n,.string k.s] tV (0,0))from hs4.blk 3 rfl)
 have uA:=CM (show Sat B D W4 (aF dm 5 (.slice la N lc) N (H.es.flatMap BefE.cells)::blk bz en.cells.toArray dm::(orL D o ⟨X.cols,X.tabs⟩ y++(blk bk k.cells.toArray tV::blk x (aO o (.slice la N lc) X.saves H.cs) tTx::l)))from hs4.front 5 rfl)
 clear hs4 vf
 refine And.intro ?_ ?_
 ·go_simp;first|done|exact yB.out
 refine ag rfl ?_
 refine aI _ rfl _ _ tBefs rfl dm i0 _ 5 64 Tryz.underlying89 HI.out.1 HI.out.2.1 HI.out.2.2.1 HI.out.2.2.2 rfl _ N _ rfl uA.out _ 1 _ rfl uw.out (by simpa using BefE.one en) (by unfold maxLen;omega) (by omega) ?_
 intro v7 w7 hs7 h17
 refine wpList_nil ?_
 clear c1 x0 x1 x2 xf uA uw
 obtain⟨va,vc,rfl⟩:∃va vc,v7 = .slice va (N+1) vc:=hs7.own_shape
 have uu:=CM (show Sat B D w7 (blk x (aO o (.slice la N lc) X.saves H.cs) tTx::aF dm 5 (.slice va (N+1) vc) (N+1) (H.es.flatMap BefE.cells++en.cells.toArray.toList)::blk bz en.cells.toArray dm::(orL D o ⟨X.cols,X.tabs⟩ y++(blk bk k.cells.toArray tV::l)))from hs7.front 5 rfl)
 have vf:=CM (uu.out.blk 0 rfl)
 have c1:w7.cell? ⟨x,1,none⟩=some (.slice la N lc):=by simp [World.cell?,vf.out,aO]
 have cf:∀j,w7.frozen? ⟨x,j,none⟩=false:=fun j=>by simp [World.frozen?,vf.out]
 obtain⟨x0,x1,x2,xf⟩:=aT (show w7.heap[bk]?=some (.cells #[.bool k.t,.int .i64 k.n,.string k.s] tV (0,0))from uu.out.blk 5 rfl)
 have vb:=CM (show Sat B D (w7.setCell ⟨x,1,none⟩ (.slice va (N+1) vc)) (blk x (aO o (.slice va (N+1) vc) X.saves H.cs) tTx::aF dm 5 (.slice va (N+1) vc) (N+1) (H.es.flatMap BefE.cells++en.cells.toArray.toList)::blk bz en.cells.toArray dm::(orL D o ⟨X.cols,X.tabs⟩ y++(blk bk k.cells.toArray tV::l)))from gK o (.slice la N lc) (.slice va (N+1) vc) X.saves H.cs▸Sat.set uu.out 1 (.slice va (N+1) vc))
 clear hs7 h17 vf uu
 refine And.intro ?_ ?_
 ·go_simp
 iterate 2 (refine ae rfl rfl (fun K hK=>?_);go_simp;refine hK _ ?_;clear hK K)
 refine ag rfl ?_
 refine wpList_plain rfl (fun K hK=>?_)
 go_simp
 refine hK _ _ ?_
 clear hK K
 refine wpList_nil ?_
 refine And.intro ?_ ?_
 ·go_simp
 refine ah ?_
 obtain⟨W8,hW8⟩:∃W,W=w7.setCell ⟨x,1,none⟩ (.slice va (N+1) vc):=⟨_,rfl⟩
 rw [←hW8]at vb ⊢
 clear hW8 c1 cf x0 x1 x2 xf
 have uD:=CM (show Sat B D W8 (orL D o ⟨X.cols,X.tabs⟩ y++(blk x (aO o (.slice va (N+1) vc) X.saves H.cs) tTx::aF dm 5 (.slice va (N+1) vc) (N+1) (H.es.flatMap BefE.cells++en.cells.toArray.toList)::(blk bk k.cells.toArray tV::l)))from((vb.out.front 2 rfl).drop.front 2 rfl).front 3 rfl |>.front 1 rfl)
 clear vb
 obtain⟨t2,g2,og2,pc2,ht2,hpv2,hpc2⟩:=gI HY.out HM.out uD.out
 obtain⟨d0,d1⟩:=dy uD.out
 rw [hpv2]at d1
 have vf:=CM (uD.out.blk 2 rfl)
 have c0:W8.cell? ⟨x,0,none⟩=some (.pointer (some ⟨o,0,none⟩)):=by simp [World.cell?,vf.out,aO]
 obtain⟨x0,x1,x2,xf⟩:=aT (show W8.heap[bk]?=some (.cells #[.bool k.t,.int .i64 k.n,.string k.s] tV (0,0))from uD.out.blk 4 rfl)
 rw [show List.length (OrM.tabs ⟨X.cols,X.tabs⟩)=TN from xu.out]at d1
 have Ao:=CM (tH k HY.out HM.out ht2 HK.out uD.out.drew)
 clear ht2 hpv2 vf uD
 go_upto_region 3 with fail
 refine af [(0,false,11),(1,false,11),(2,false,11),(3,false,11),(4,false,11),(5,false,11),(6,false,11),(7,false,11),(8,false,11),(9,false,11),(10,false,11),(11,true,0)] (by kernel_rfl) (by kernel_rfl) ?_
 iterate 11 (refine ae rfl rfl (fun K hK=>?_);go_simp;refine hK _ ?_;clear hK K)
 refine ag rfl ?_
 refine au rfl (fun K hK=>?_)
 go_simp
 refine Ao.out.mono ?_
 rintro eA wA ⟨bA,rfl,hsA⟩
 have HSB:=CM hsA
 clear hsA Ao c0 d0 d1 x0 x1 x2 xf hpc2
 refine hK _ _ ?_
 clear hK K
 refine wpList_nil ?_
 refine And.intro ?_ ?_
 ·go_simp
 refine ah ?_
 go_wp2_with fail
 go_end0
 have hX:X.out (i:Int) k=⟨X.cols,X.tabs.set i (dx m k),X.log ++ [⟨(i:Int),k,(aY m k).getD []⟩],X.saves,X.curs⟩:=by
  unfold TxM.out
  rw [fQ HM.out]
  rfl
 rw [hX]
 have hok:=HH.out
 refine⟨rfl,⟨.slice va (N+1) vc,H.es ++ [en],H.cs⟩,⟨?_,hok.curs,hok.saves,hok.three,?_⟩,?_⟩
 ·refine hok.log.snoc ?_
  rw [Bi.out]
  exact⟨rfl,rfl,zm.out⟩
 ·rw [List.length_append];exact HB.out
 ·refine fR (X:=⟨X.cols,X.tabs.set i (dx m k),X.log ++ [⟨(i:Int),k,(aY m k).getD []⟩],X.saves,X.curs⟩) (H:=⟨.slice va (N+1) vc,H.es ++ [en],H.cs⟩) ?_
  show Sat B D wA (_::_::aF dm 5 _ (H.es ++ [en]).length ((H.es ++ [en]).flatMap BefE.cells)::l)
  rw [List.length_append,HN.out,List.flatMap_append,List.flatMap_singleton]
  exact(HSB.out.front 3 rfl).drop
end Go.Proofs.YtdobimafhbfkhaaGreat
