/- Joined texts: The tree: Get, by what the tree stands for. The tree as data: how deep, how many nodes. The tree as data: what is put or deleted at one key changes nothing at another one. An oracle in memory: tables whose trees hold rows' headers; the rows lie in what turns no more. What is looked up in a table, laid into it, taken out of it. A transaction in memory. A row is laid into a table, and noted (txn.put). A row is taken out of a table, and noted (txn.out). -/
import Derived.Test.YtdobimafhbfkhaaGreatOB30
import Derived.Test.YtdobimafhbfkhaaGreatOB25
import Derived.Test.YtdobimafhbfkhaaGreatOB15
import Derived.Test.YtdobimafhbfkhaaGreatOB9
import Derived.Test.YtdobimafhbfkhaaGreatOB24
set_option maxHeartbeats 64000000
namespace Go.Proofs.YtdobimafhbfkhaaGreat
open Go.ChangeShapes Go.WideShapes Go.ChangeAt Go.RowKit
set_option maxRecDepth 100000
set_option linter.unusedSimpArgs false
def kq (L:PL)(k:Val):Option (Val×VT):=L.find? (fun p=>decide (p.1=k))
def pE (L:PL)(k:Val):Bool:=(kq L k).isSome
def oP (L:PL)(k:Val):VT:=match kq L k with
 | some p=>p.2
 | none=>RowT.none
theorem sd {L:PL}{k:Val}{v:VT}(hs:bh L)(h:(k,v)∈L):kq L k=some (k,v):=by
 unfold kq
 cases hf:L.find? (fun p=>decide (p.1=k))with
 | none=>exact absurd (List.find?_eq_none.1 hf _ h) (by simp)
 | some q =>
  have h1:=List.mem_of_find?_eq_some hf
  have h2:q.1=k:=by have:=List.find?_some hf;simpa using this
  obtain⟨i,hi,hi2⟩:=List.mem_iff_getElem.1 h1
  obtain⟨j,hj,hj2⟩:=List.mem_iff_getElem.1 h
  rcases Nat.lt_trichotomy i j with hlt|rfl|hlt
  ·have:=List.pairwise_iff_getElem.1 hs i j hi hj hlt
   rw [hi2,hj2,h2]at this
   rw [cP]at this
   omega
  ·rw [←hi2,hj2]
  ·have:=List.pairwise_iff_getElem.1 hs j i hj hi hlt
   rw [hi2,hj2,h2]at this
   rw [cP]at this
   omega
theorem getP_no {L:PL}{k:Val}(h:cq L k=false):kq L k=none:=by
 unfold kq
 refine List.find?_eq_none.2 (fun x hx e=>?_)
 have e1:x.1=k:=by simpa using e
 have:=List.any_eq_false.1 h x hx
 rw [e1,cP]at this
 simp at this
theorem pN {L:PL}{k:Val}(hr:eZ L)(hk:al k=false):kq L k=none:=by
 unfold kq
 refine List.find?_eq_none.2 (fun x hx e=>?_)
 have e1:x.1=k:=by simpa using e
 have:=hr x hx
 rw [e1,hk]at this
 cases this
theorem oD {T:TM}{k:Val}:∀(d i:Nat) (L:PL) (ids:List Nat),Rep T.nodes d i L ids→(∀m,T.nodes[i]?=some m→m.size≤4) →
  ∃(j:Nat) (m:NodeM) (A Bs:PL),T.Leads k d i j∧T.nodes[j]?=some m∧m.keys.length≤4∧m.vals.length=m.keys.length∧L=A++m.keys.zip m.vals++Bs∧(∀x∈A,aj x.1 k<0)∧(∀x∈Bs,aj k x.1<0)
 | 0,i,L,ids,⟨m,hm,h1,h2,h3,h4,h5⟩,hz=>by
  have hm4:=hz m hm
  have hkl:m.keys.length≤4:=by unfold NodeM.size at hm4;rw [h1,if_pos rfl]at hm4;exact hm4
  exact⟨i,m,[],[],.leaf hm h1,hm,hkl,h3,by simpa using h4,by simp,by simp⟩
 | d+1,i,L,ids,⟨m,hm,h1,h2,cs,h3,h4,h5,h6,h7,h8,h9⟩,hz=>by
  have hkids:m.kids.length≤4:=by have:=hz m hm;unfold NodeM.size at this;rw [h1]at this;simpa using this
  have hkc:m.kids.length=cs.length:=by rw [h3,List.length_map]
  obtain⟨A,c,Bs,rfl,e1,e2,e3,e4⟩:=kn k h4 h6 h7
  obtain⟨hr,m',hm',_,hf⟩:=h5 c (by simp)
  obtain⟨j,mj,A',B',g1,g2,g3,g4,g5,g6,g7⟩:=oD d c.id c.L c.ids hr (fun m'' hm''=>by rw [hm']at hm'';cases hm'';exact hf)
  refine⟨j,mj,A.flatMap Kid.L++A',B'++Bs.flatMap Kid.L,.inner hm h1 (by omega) (by rw [←e1,h3];simp) g1,g2,g3,g4,?_,?_,?_⟩
  ·rw [h8,List.flatMap_append,List.flatMap_cons,g5];simp
  ·intro x hx
   rcases List.mem_append.1 hx with hx|hx
   ·exact e2 x hx
   ·exact g6 x hx
  ·intro x hx
   rcases List.mem_append.1 hx with hx|hx
   ·exact g7 x hx
   ·exact e3 x hx
theorem Get_ok {B w:World}{D:PH}{t:Nat}{T:TM}{L:PL}{l:List HP}(k:Val)(hG:Good T L)(h:TreeA B D w t T l) :
  Calls Tryz.prog 93 #[.pointer (some ⟨t,0,none⟩),k.v] w fun e w'=>e = .returned (.tuple #[(oP L k).v,.bool (pE L k)])∧Kept (fun _=>False) w w':=by
 rcases hG.rep with ⟨hr0,rfl,hd0,hp⟩|⟨r,d,ids,m,hroot,hdep,hR,hp,hm,hm1,hm4⟩
 ·exact sM (k:=k) (h.nil_of hr0)
 ·obtain⟨j,mj,A,Bs,g1,g2,g3,g4,g5,g6,g7⟩:=oD (k:=k) d r L ids hR (fun m' hm'=>by rw [hm]at hm';cases hm';exact hm4)
  have key:=Get_at (k:=k) hroot g1 g2 (by omega) g4 h
  have hsz:bh (mj.keys.zip mj.vals):=fK (by rw [←g5];exact hG.sorted)
  have hsk:=d4 g4 hsz
  have e1:mj.has k=pE L k∧mj.get k=oP L k:=by
   unfold NodeM.has NodeM.get
   cases hk:al k
   ·unfold pE oP
    rw [pN hG.right hk]
    exact⟨rfl,rfl⟩
   ·cases hb:dF mj.keys k
    ·have h2:=(io (v:=RowT.none) g4 hsz hb).2
     have h3:cq L k=false:=by rw [g5,iw g6 g7];exact h2
     unfold pE oP
     rw [getP_no h3]
     exact⟨rfl,rfl⟩
    ·obtain⟨x,hx,hx0⟩:=(fq (ks:=mj.keys) k).1 hb
     have hlt:=(List.getElem?_eq_some_iff.1 hx).1
     obtain⟨y,hy⟩:∃y,mj.vals[bg mj.keys k]?=some y:=⟨_,List.getElem?_eq_getElem (by omega)⟩
     have hz:(mj.keys.zip mj.vals)[bg mj.keys k]?=some (x,y):=List.getElem?_zip_eq_some.2 ⟨hx,hy⟩
     have hmem:(x,y)∈L:=by rw [g5];simp [List.mem_of_getElem? hz]
     obtain rfl:x=k:=jn (hG.right _ hmem) hk hx0
     unfold pE oP
     rw [sd hG.sorted hmem,List.getD_eq_getElem?_getD,hy]
     exact⟨rfl,rfl⟩
  rw [e1.1,e1.2]at key
  exact key
theorem oE {d:Nat}:∀(cs:List Kid),(∀c∈cs,2 ^ d≤c.L.length∧c.ids.length+1≤c.L.length)→cs.length*2 ^ d≤(cs.flatMap Kid.L).length∧(cs.flatMap Kid.ids).length+cs.length≤(cs.flatMap Kid.L).length
 | [],_=>by simp
 | c::cs,h=>by
  obtain⟨h1,h2⟩:=oE cs (fun c' hc'=>h c' (List.mem_cons_of_mem _ hc'))
  obtain⟨h3,h4⟩:=h c (List.mem_cons_self ..)
  rw [List.flatMap_cons,List.flatMap_cons,List.length_cons,List.length_append,List.length_append,Nat.add_mul,Nat.one_mul]
  omega
theorem pZ {nodes:List NodeM}:∀ {d i:Nat} {L:PL} {ids:List Nat},Rep nodes d i L ids→(∃m,nodes[i]?=some m∧2≤m.size)→2 ^ (d+1)≤L.length∧ids.length+1≤L.length
 | 0,i,L,ids,⟨m,h,h1,h2,h3,h4,h5⟩,⟨m',h',hs⟩=>by
  rw [h]at h';cases h'
  unfold NodeM.size at hs
  rw [h1,if_pos rfl]at hs
  have:L.length=m.keys.length:=by rw [h4,List.length_zip,h3];omega
  rw [this,h5]
  simp;omega
 | d+1,i,L,ids,⟨m,h,h1,h2,cs,h3,h4,h5,_,_,h8,h9⟩,⟨m',h',hs⟩=>by
  rw [h]at h';cases h'
  unfold NodeM.size at hs
  rw [h1,h3,List.length_map]at hs
  obtain⟨g1,g2⟩:=oE (d:=d+1) cs (fun c hc=>by
   obtain⟨hr,m1,hm1,hz,_⟩:=h5 c hc
   exact pZ hr ⟨m1,hm1,hz⟩)
  have hs2:2≤cs.length:=by simpa using hs
  have h6:2*2 ^ (d+1)≤cs.length*2 ^ (d+1):=Nat.mul_le_mul_right _ hs2
  rw [h8,h9,List.length_cons,Nat.pow_succ 2 (d+1)]
  omega
theorem sU {nodes:List NodeM}{d i:Nat}{L:PL}{ids:List Nat}{m:NodeM}(h:Rep nodes d i L ids)(hm:nodes[i]?=some m)(hz:(if m.leaf then 1 else 2)≤m.size):2 ^ d≤L.length∧ids.length≤L.length:=by
 cases d with
 | zero =>
  obtain⟨m',h',h1,h2,h3,h4,h5⟩:=h
  rw [hm]at h';cases h'
  rw [h1,if_pos rfl]at hz
  unfold NodeM.size at hz
  rw [h1,if_pos rfl]at hz
  have:L.length=m.keys.length:=by rw [h4,List.length_zip,h3];omega
  rw [this,h5]
  simp;omega
 | succ d =>
  have hl:m.leaf=false:=by
   obtain⟨m',h',h1,_⟩:=h
   rw [hm]at h';cases h'
   exact h1
  rw [hl]at hz
  have:=pZ h ⟨m,hm,by simpa using hz⟩
  have h2:2 ^ (d+1)≤2 ^ (d+1+1):=Nat.pow_le_pow_right (by omega) (by omega)
  omega
structure Shape (T:TM)(L:PL):Prop where
 free:T.free.length≤T.nodes.length
 used:T.nodes.length≤T.free.length+L.length
 depth:(L = []∧T.k.depth=0∧T.nodes.length=T.free.length)∨(1≤L.length∧T.free.length+1≤T.nodes.length∧∃d:Nat,T.k.depth=(d:Int)+1∧2 ^ d≤L.length)
theorem Good.shape {T:TM}{L:PL}(h:Good T L):Shape T L:=by
 rcases h.rep with ⟨hr0,rfl,hd0,hp⟩|⟨r,d,ids,m,hroot,hdep,hR,hp,hm,hm1,hm4⟩
 ·have e:=hp.length_eq
  simp at e
  exact⟨by omega,by omega,.inl ⟨rfl,hd0,e.symm⟩⟩
 ·have e:=hp.length_eq
  have hpos:=List.length_pos_of_mem hR.self
  obtain⟨g1,g2⟩:=sU hR hm hm1
  simp at e
  exact⟨by omega,by omega,.inr ⟨by omega,by omega,d,hdep,g1⟩⟩
theorem qY {d n:Nat}(h:2 ^ d≤n)(hn:n≤200):d≤7:=by
 by_cases hd:d≤7
 ·exact hd
 ·have:2 ^ 8≤2 ^ d:=Nat.pow_le_pow_right (by omega) (by omega)
  omega
abbrev tOr : TypeId:=84
def TblsAt (D:PH)(v:Value)(ts:List (List Bool)):Prop:=∃hs:List Value,hs.length=ts.length∧(∀u∈hs,u.oneCell'=true)∧RdP D 1 v ts.length hs∧∀(i:Nat) (h:Value) (r:List Bool),hs[i]?=some h→ts[i]?=some r→RdP D 1 h r.length (r.flatMap dq)
def TblsRd (w:World)(v:Value)(ts:List (List Bool)):Prop:=∃hs:List Value,hs.length=ts.length∧Rd w 1 v ts.length hs∧∀(i:Nat) (h:Value) (r:List Bool),hs[i]?=some h→ts[i]?=some r→Rd w 1 h r.length (r.flatMap dq)
theorem TblsAt.mono {D D':PH}(le:PH.le D D'){v:Value}{ts:List (List Bool)}(h:TblsAt D v ts):TblsAt D' v ts:=by
 obtain⟨hs,h1,h2,h3,h4⟩:=h
 exact⟨hs,h1,h2,h3.mono le,fun i u r a b=>(h4 i u r a b).mono le⟩
theorem TblsAt.rd {B w:World}{D:PH}{l:List HP}(hs:Sat B D w l){v:Value}{ts:List (List Bool)}(h:TblsAt D v ts):TblsRd w v ts:=by
 obtain⟨us,h1,h2,h3,h4⟩:=h
 exact⟨us,h1,h3.rd hs,fun i u r a b=>(h4 i u r a b).rd hs⟩
theorem TblsRd.kept {w w':World}(k:Kept (fun _=>False) w w'){v:Value}{ts:List (List Bool)}(h:TblsRd w v ts):TblsRd w' v ts:=by
 obtain⟨hs,h1,h2,h3⟩:=h
 exact⟨hs,h1,h2.kept k (fun _ _ h=>h),fun i u r a b=>(h3 i u r a b).kept k (fun _ _ h=>h)⟩
def su (t:Nat)(T:TM):HP:=exP (fun x:Value×Value×List NP=>x.2.2.map Prod.snd=T.nodes) (fun x=>[blk t (aK x.1 x.2.1 T.k) tT,aC tN 4 x.1 x.2.2.length (x.2.2.flatMap aE),aY x.2.1 T.free,aX (x.2.2.map bR)])
theorem TreeA.close {B w:World}{D:PH}{t:Nat}{T:TM}{l:List HP}(h:TreeA B D w t T l):Sat B D w (su t T::l):=by
 obtain⟨nv,fv,ns,hns,hs⟩:=h
 exact Sat.close_ex (nv,fv,ns) hns hs
theorem iC {B w:World}{D:PH}{t:Nat}{T:TM}{l:List HP}(h:Sat B D w (su t T::l)):TreeA B D w t T l:=by
 obtain⟨⟨nv,fv,ns⟩,hns,hs⟩:=Sat.open_ex h
 exact⟨nv,fv,ns,hns,hs⟩
theorem fh {α:Type}{f f':α→HP}:∀(L:List α),(∀x∈L,∀h,f x h→f' x h)→∀h,Holds (L.map f) h→Holds (L.map f') h
 | [],_,_,_=>trivial
 | x::L,hf,_,⟨h1,h2,a,b,c,d,e⟩=>⟨h1,h2,a,b,c,hf x (List.mem_cons_self ..) _ d,fh L (fun y hy=>hf y (List.mem_cons_of_mem _ hy)) _ e⟩
theorem i5 {α β:Type}(f:α→β):∀(L:List α) (i:Nat),(L.eraseIdx i).map f=(L.map f).eraseIdx i
 | [],_=>by simp
 | x::L,0=>by simp
 | x::L,i+1=>by simp [i5 f L i]
theorem sw {α:Type}{p p':α→Prop}{L:α→List HP}(hp:∀x,p x→p' x)(h:PH):exP p L h→exP p' L h:=fun ⟨x,h1,h2⟩=>⟨x,hp x h1,h2⟩
inductive RowsL (D:PH):PL→ar→Prop where
 | nil:RowsL D [] []
 | cons {k:Val} {v:VT} {r:List Val} {L:PL} {l:ar} (hk:k=aG r) (hr:RowF D v.v r) (t:RowsL D L l):RowsL D ((k,v)::L) (r::l)
theorem RowsL.mono {D D':PH}(le:PH.le D D'){L:PL}{l:ar}(h:RowsL D L l):RowsL D' L l:=by
 induction h with
 | nil=>exact .nil
 | cons hk hr _ ih=>exact .cons hk (hr.mono le) ih
theorem RowsL.len {D:PH}{L:PL}{l:ar}(h:RowsL D L l):L.length=l.length:=by
 induction h with
 | nil=>rfl
 | cons _ _ _ ih=>rw [List.length_cons,List.length_cons,ih]
theorem RowsL.app {D:PH}{L L':PL}{l l':ar}(h:RowsL D L l)(h':RowsL D L' l'):RowsL D (L++L') (l++l'):=by
 induction h with
 | nil=>exact h'
 | cons hk hr _ ih=>exact .cons hk hr ih
theorem RowsL.filter {D:PH}(p:Val→Bool){L:PL}{l:ar}(h:RowsL D L l):RowsL D (L.filter (fun x=>p x.1)) (l.filter (fun r=>p (aG r))):=by
 induction h with
 | nil=>exact .nil
 | @cons k v r L l hk hr _ ih =>
  rw [List.filter_cons,List.filter_cons]
  dsimp only
  rw [hk]
  cases p (aG r)
  ·simpa using ih
  ·simpa using RowsL.cons rfl hr ih
theorem RowsL.put {D:PH}{L:PL}{l:ar}(h:RowsL D L l){v:VT}{r:List Val}(hr:RowF D v.v r):RowsL D (de L (aG r) v) (cA l r) :=
 (h.filter (fun k=>decide (aj k (aG r)<0))).app (.cons rfl hr (h.filter (fun k=>decide (0<aj k (aG r)))))
theorem RowsL.del {D:PH}{L:PL}{l:ar}(h:RowsL D L l)(k:Val):RowsL D (cE L k) (dj l k):=h.filter (fun x=>!decide (aj x k=0))
theorem RowsL.span {D:PH}{L:PL}{l:ar}(h:RowsL D L l)(s:Spn):RowsL D (inS s L) (l.filter (fun r=>bG s (aG r))):=h.filter (fun x=>bG s x)
theorem RowsL.get {D:PH}{L:PL}{l:ar}(h:RowsL D L l)(k:Val):(kq L k=none∧aU l k=none)∨∃v r,kq L k=some (k,v)∧aU l k=some r∧RowF D v.v r:=by
 unfold kq aU
 induction h with
 | nil=>exact .inl ⟨rfl,rfl⟩
 | @cons k' v r L l hk hr _ ih =>
  rw [List.find?_cons,List.find?_cons]
  dsimp only
  rw [hk]
  by_cases hkk:aG r=k
  ·rw [decide_eq_true hkk,←hkk]
   exact .inr ⟨v,r,rfl,rfl,hr⟩
  ·rw [decide_eq_false hkk]
   exact ih
theorem RowsL.at {D:PH}{L:PL}{l:ar}(h:RowsL D L l):∀ {i:Nat} {p:Val×VT},L[i]?=some p→∃r,l[i]?=some r∧p.1=aG r∧RowF D p.2.v r:=by
 induction h with
 | nil=>intro i p hp;simp at hp
 | @cons k v r L l hk hr _ ih =>
  intro i p hp
  cases i with
  | zero=>simp at hp;subst hp;exact⟨r,rfl,hk,hr⟩
  | succ i=>exact ih (i:=i) (by simpa using hp)
structure TabR (D:PH)(T:TM)(L:PL)(l:ar):Prop where
 good:Good T L
 fit:T.nodes.length≤300
 len:l.length≤200
 rows:RowsL D L l
theorem TabR.small {D:PH}{T:TM}{L:PL}{l:ar}(h:TabR D T L l):Small T L 500:=by
 have h1:=h.good.shape
 have h2:=h.fit
 have h3:=h.len
 have h4:=h.rows.len
 refine⟨?_,Nat.le_trans h2 (by decide),by omega⟩
 rcases h1.depth with ⟨_,hd,_⟩|⟨_,_,d,hd,hp⟩
 ·omega
 ·have:=qY hp (by omega)
  omega
theorem TabR.next {D D':PH}{T T':TM}{L L':PL}{l l':ar}(h:TabR D T L l)(hn:Next T T' L L')(hr:RowsL D' L' l')(hl:l'.length≤200):TabR D' T' L' l':=by
 refine⟨hn.good,?_,hl,hr⟩
 rcases hn.room with h1|h1
 ·rw [h1];exact h.fit
 ·have h2:=hn.good.shape
  have h3:=hr.len
  have h4:=h2.used
  rw [h1,List.length_nil]at h4
  omega
def eK (D:PH)(t:Nat)(l:ar):HP:=exP (fun x:TM×PL=>TabR D x.1 x.2 l) (fun x=>[su t x.1])
theorem gN {D D':PH}(le:PH.le D D'){t:Nat}{l:ar}(h:PH):eK D t l h→eK D' t l h:=sw (fun _ h=>⟨h.good,h.fit,h.len,h.rows.mono le⟩) h
def dQ (D:PH)(p:Nat×ar):HP:=eK D p.1 p.2
def lp (t:Nat):Value:=.pointer (some ⟨t,0,none⟩)
structure OrH where
 tv:Value
 pv:Value
 ts:List Nat
def OrOk (D:PH)(O:OrM)(x:OrH):Prop:=TblsAt D x.tv O.cols∧RdP D 1 x.pv x.ts.length (x.ts.map lp)∧x.ts.length=O.tabs.length∧O.tabs.length=O.cols.length
def orL (D:PH)(o:Nat)(O:OrM)(x:OrH):List HP:=[blk o #[x.tv,x.pv] tOr,aX ((x.ts.zip O.tabs).map (dQ D))]
def orP (D:PH)(o:Nat)(O:OrM):HP:=exP (OrOk D O) (orL D o O)
section
variable {B w w' : World} {D D' : PH} {o : Nat} {O : OrM} {x : OrH} {l : List HP} {i t : Nat} {m m' : ar}
theorem fV (h:Sat B D w (orP D' o O::l)):∃x,OrOk D' O x∧Sat B D w (orL D' o O x++l):=Sat.open_ex h
theorem oZ {x:OrH}(hx:OrOk D' O x)(h:Sat B D w (orL D' o O x++l)):Sat B D w (orP D' o O::l):=Sat.close_ex x hx h
theorem iR {D0:PH}(le:PH.le D D')(h:Sat B D0 w (orP D o O::l)):Sat B D0 w (orP D' o O::l):=by
 obtain⟨x,⟨h1,h2,h3,h4⟩,hs⟩:=fV h
 refine oZ ⟨h1.mono le,h2.mono le,h3,h4⟩ ?_
 exact((Sat.swap hs).weaken (A':=aX ((x.ts.zip O.tabs).map (dQ D'))) (fun h=>fh _ (fun _ _ _ h=>gN le _ h) h)).swap
def sZ (D:PH)(o:Nat)(O:OrM)(x:OrH)(i:Nat):List HP:=[blk o #[x.tv,x.pv] tOr,aX (((x.ts.zip O.tabs).eraseIdx i).map (dQ D))]
theorem iN (hm:O.tabs[i]?=some m)(ht:x.ts[i]?=some t)(h:Sat B D w (orL D' o O x++l)):Sat B D w (eK D' t m::(sZ D' o O x i++l)):=by
 have hz:(x.ts.zip O.tabs)[i]?=some (t,m):=by rw [List.getElem?_zip_eq_some];exact⟨ht,hm⟩
 have hz2:((x.ts.zip O.tabs).map (dQ D'))[i]?=some (eK D' t m):=by rw [List.getElem?_map,hz];rfl
 have h1:=(Sat.front h 1 rfl).ungroup
 have h2:=h1.perm ((fl _ i _ hz2).append_right _)
 have h4:Sat B D w (eK D' t m::(((x.ts.zip O.tabs).map (dQ D')).eraseIdx i++(orL D' o O x++l).eraseIdx 1)):=h2
 have h5:=(h4.perm (List.perm_append_comm_assoc [eK D' t m] _ _)).togroup
 rw [←i5]at h5
 exact h5.perm (List.perm_middle (l₁:=[eK D' t m,blk o #[x.tv,x.pv] tOr]) (a:=aX (((x.ts.zip O.tabs).eraseIdx i).map (dQ D'))) (l₂:=l)).symm
theorem ll (hx:OrOk D' O x)(hm:O.tabs[i]?=some m)(ht:x.ts[i]?=some t)(h:Sat B D w (eK D' t m'::(sZ D' o O x i++l))):Sat B D w (orP D' o ⟨O.cols,O.tabs.set i m'⟩::l):=by
 have hz:(x.ts.zip O.tabs)[i]?=some (t,m):=by rw [List.getElem?_zip_eq_some];exact⟨ht,hm⟩
 have hset:x.ts.zip (O.tabs.set i m')=(x.ts.zip O.tabs).set i (t,m'):=by
  refine List.ext_getElem? fun j=>?_
  by_cases hj:i=j
  ·subst hj
   have hlt:=(List.getElem?_eq_some_iff.1 hz).1
   have hlt2:=(List.getElem?_eq_some_iff.1 hm).1
   rw [List.getElem?_set_self hlt,List.getElem?_zip_eq_some]
   exact⟨ht,List.getElem?_set_self hlt2⟩
  ·rw [List.getElem?_set_ne hj,List.zip_eq_zipWith,List.zip_eq_zipWith,List.getElem?_zipWith,List.getElem?_zipWith,List.getElem?_set_ne hj]
 refine oZ (O:=⟨O.cols,O.tabs.set i m'⟩) (x:=x) ⟨hx.1,hx.2.1,by simpa using hx.2.2.1,by simpa using hx.2.2.2⟩ ?_
 have h1:Sat B D w (aX (((x.ts.zip O.tabs).eraseIdx i).map (dQ D'))::eK D' t m'::blk o #[x.tv,x.pv] tOr::l) :=
  h.perm (List.perm_middle (l₁:=[eK D' t m',blk o #[x.tv,x.pv] tOr]) (a:=aX (((x.ts.zip O.tabs).eraseIdx i).map (dQ D'))) (l₂:=l))
 have h3:=h1.ungroup.perm (List.perm_middle (l₁:=((x.ts.zip O.tabs).eraseIdx i).map (dQ D')) (a:=eK D' t m'))
 rw [i5]at h3
 have hz2:((x.ts.zip O.tabs).map (dQ D'))[i]?=some (eK D' t m):=by rw [List.getElem?_map,hz];rfl
 have h4:=h3.perm (((gm (eK D' t m') _ i _ hz2).symm.append_right (blk o #[x.tv,x.pv] tOr::l)))
 have e:((x.ts.zip O.tabs).map (dQ D')).set i (eK D' t m')=(x.ts.zip (O.tabs.set i m')).map (dQ D'):=by rw [hset,List.map_set];rfl
 rw [e]at h4
 exact h4.togroup.perm (List.perm_middle (l₁:=[blk o #[x.tv,x.pv] tOr]) (a:=aX ((x.ts.zip (O.tabs.set i m')).map (dQ D'))) (l₂:=l)).symm
theorem gp (hx:OrOk D' O x)(hm:O.tabs[i]?=some m)(hs:Sat B D' w l):∃t g og pc,x.ts[i]?=some t∧x.pv = .slice (some ⟨g,og,none⟩) O.tabs.length pc∧w.cell? ⟨g,og+i,none⟩=some (.pointer (some ⟨t,0,none⟩)):=by
 obtain⟨_,h2,h3,h4⟩:=hx
 have hlt:=(List.getElem?_eq_some_iff.1 hm).1
 obtain⟨t,ht⟩:∃t,x.ts[i]?=some t:=⟨x.ts[i]'(by omega),List.getElem?_eq_getElem _⟩
 obtain⟨po,pc,hpv⟩:=h2.shape
 have hp:=(h2.rd hs).2.2
 rcases hp with ⟨ao2,cap2,hq,_,_,_,hcell⟩
 rcases hcell with h0|⟨g,og,hg,hcc⟩
 ·omega
 ·rw [hpv]at hq
  cases hq
  subst hg
  exact⟨t,g,og,pc,ht,by rw [hpv,h3],hcc i _ (by rw [List.getElem?_map,ht];rfl)⟩
end
section
variable {B w w' : World} {D : PH} {o : Nat} {O : OrM} {x : OrH} {l : List HP} {i t : Nat} {m m' : ar}
theorem pd (k:Val)(hm:O.tabs[i]?=some m)(ht:x.ts[i]?=some t)(h:Sat B D w (orL D o O x++l)) :
  Calls Tryz.prog 93 #[.pointer (some ⟨t,0,none⟩),k.v] w fun e w'=>∃v,e = .returned (.tuple #[v,.bool (aU m k).isSome])∧RowF D v ((aU m k).getD [])∧Kept (fun _=>False) w w':=by
 obtain⟨⟨T,L⟩,hT,hsT⟩:=Sat.open_ex (iN hm ht h)
 refine(Get_ok k hT.good (iC hsT)).mono ?_
 rintro e w' ⟨rfl,hk⟩
 rcases hT.rows.get k with ⟨h1,h2⟩|⟨v,r,h1,h2,h3⟩
 ·refine⟨.slice none 0 0,?_,?_,hk⟩
  ·unfold oP pE;rw [h1,h2];rfl
  ·rw [h2];exact⟨RdP.nil _ _,fun a ha=>by cases ha⟩
 ·refine⟨v.v,?_,?_,hk⟩
  ·unfold oP pE;rw [h1,h2];rfl
  ·rw [h2];exact h3
theorem sj (v:VT)(r:List Val)(hx:OrOk D O x)(hm:O.tabs[i]?=some m)(ht:x.ts[i]?=some t)(hr:RowF D v.v r)(hk:al (aG r)=true)(hl:(cA m r).length≤200)(h:Sat B D w (orL D o O x++l)) :
  Calls Tryz.prog 92 #[.pointer (some ⟨t,0,none⟩),(aG r).v,v.v] w fun e w'=>∃b,e = .returned (.bool b)∧Sat B D w' (orP D o ⟨O.cols,O.tabs.set i (cA m r)⟩::l):=by
 obtain⟨⟨T,L⟩,hT,hsT⟩:=Sat.open_ex (iN hm ht h)
 refine(Put_ok (aG r) v hT.good hT.small (Nat.le_refl _) (iC hsT)).mono ?_
 rintro e w' ⟨T',rfl,ha,hn⟩
 have hput:qO L (aG r) v=de L (aG r) v:=by unfold qO;rw [hk,if_pos rfl]
 rw [hput]at hn
 have hT':=hT.next hn (hT.rows.put hr) hl
 exact⟨_,rfl,ll hx hm ht (Sat.close_ex (T',de L (aG r) v) hT' ha.close)⟩
theorem tj (k:Val)(hx:OrOk D O x)(hm:O.tabs[i]?=some m)(ht:x.ts[i]?=some t)(hk:al k=true)(h:Sat B D w (orL D o O x++l)) :
  Calls Tryz.prog 91 #[.pointer (some ⟨t,0,none⟩),k.v] w fun e w'=>∃b,e = .returned (.bool b)∧Sat B D w' (orP D o ⟨O.cols,O.tabs.set i (dj m k)⟩::l):=by
 obtain⟨⟨T,L⟩,hT,hsT⟩:=Sat.open_ex (iN hm ht h)
 refine(qz k hT.good hT.small (Nat.le_refl _) (iC hsT)).mono ?_
 rintro e w' ⟨T',rfl,ha,hn⟩
 have hrem:na L k=cE L k:=by unfold na;rw [hk,if_pos rfl]
 rw [hrem]at hn
 have hT':=hT.next hn (hT.rows.del k) (Nat.le_trans (List.length_filter_le ..) hT.len)
 exact⟨_,rfl,ll hx hm ht (Sat.close_ex (T',cE L k) hT' ha.close)⟩
end
abbrev tTx : TypeId:=97
abbrev cY : TypeId:=147
structure BefE where
 table:Int
 key:Val
 r:VT
def BefE.cells (b:BefE):List Value:=[.int .i64 b.table,.bool b.key.t,.int .i64 b.key.n,.string b.key.s,b.r.v]
theorem BefE.len (b:BefE):b.cells.length=5:=rfl
theorem BefE.one (b:BefE):∀u∈b.cells,u.oneCell'=true:=by intro u hu;simp [BefE.cells]at hu;rcases hu with rfl|rfl|rfl|rfl|rfl<;>rfl
structure CurE where
 opn:Bool
 change:Bool
 stands:Bool
 table:Int
 pe:PredE
 frm:Spn
 key:Val
def CurE.cells (c:CurE):List Value:=[.bool c.opn,.bool c.change,.bool c.stands,.int .i64 c.table]++c.pe.cells++c.frm.cells.toList++c.key.cells
theorem CurE.len (c:CurE):c.cells.length=27:=rfl
def BefOk (D:PH)(b:BefE)(m:BefM):Prop:=b.table=m.table∧b.key=m.key∧RowF D b.r.v m.r
def nS (D:PH)(c:CurE)(m:CurM):Prop:=c.opn=m.opn∧c.change=m.change∧c.stands=m.stands∧c.table=m.table∧c.pe.p=m.p∧c.frm=m.frm∧c.key=m.key∧PredsAt D (.slice c.pe.la c.pe.ln c.pe.lc) c.pe.subs
inductive All2 {α β:Type}(R:α→β→Prop):List α→List β→Prop where
 | nil:All2 R [] []
 | cons {a:α} {b:β} {l:List α} {m:List β} (h:R a b) (t:All2 R l m):All2 R (a::l) (b::m)
theorem All2.imp {α β:Type}{R R':α→β→Prop}(hi:∀a b,R a b→R' a b){l:List α}{m:List β}(h:All2 R l m):All2 R' l m:=by
 induction h with
 | nil=>exact .nil
 | cons h _ ih=>exact .cons (hi _ _ h) ih
theorem All2.len {α β:Type}{R:α→β→Prop}{l:List α}{m:List β}(h:All2 R l m):l.length=m.length:=by
 induction h with
 | nil=>rfl
 | cons _ _ ih=>rw [List.length_cons,List.length_cons,ih]
theorem All2.snoc {α β:Type}{R:α→β→Prop}{l:List α}{m:List β}{a:α}{b:β}(h:All2 R l m)(hab:R a b):All2 R (l ++ [a]) (m ++ [b]):=by
 induction h with
 | nil=>exact .cons hab .nil
 | cons h _ ih=>exact .cons h ih
theorem All2.take {α β:Type}{R:α→β→Prop}{l:List α}{m:List β}(h:All2 R l m):∀n,All2 R (l.take n) (m.take n):=by
 induction h with
 | nil=>intro n;simp;exact .nil
 | cons h _ ih =>
  intro n
  cases n with
  | zero=>exact .nil
  | succ n=>exact .cons h (ih n)
theorem All2.get {α β:Type}{R:α→β→Prop}{l:List α}{m:List β}(h:All2 R l m):∀ {i:Nat} {a:α},l[i]?=some a→∃b,m[i]?=some b∧R a b:=by
 induction h with
 | nil=>intro i a h;simp at h
 | cons h _ ih =>
  intro i a hi
  cases i with
  | zero=>simp at hi;subst hi;exact⟨_,rfl,h⟩
  | succ i=>exact ih (by simpa using hi)
theorem All2.set {α β:Type}{R:α→β→Prop}{l:List α}{m:List β}{a:α}{b:β}(h:All2 R l m)(hab:R a b):∀i,All2 R (l.set i a) (m.set i b):=by
 induction h with
 | nil=>intro i;exact .nil
 | cons h t ih =>
  intro i
  cases i with
  | zero=>exact .cons hab t
  | succ i=>exact .cons h (ih i)
structure TxH where
 lv:Value
 es:List BefE
 cs:List CurE
def aO (o:Nat)(lv:Value)(sv:List Int)(cs:List CurE):Array Value:=(.pointer (some ⟨o,0,none⟩)::lv::(sv.map (Value.int .i64)++cs.flatMap CurE.cells)).toArray
structure TxOk (D:PH)(X:TxM)(H:TxH):Prop where
 log:All2 (BefOk D) H.es X.log
 curs:All2 (nS D) H.cs X.curs
 saves:X.saves.length=4
 three:X.curs.length=3
 small:X.log.length≤10000
def txL (D:PH)(x o:Nat)(X:TxM)(H:TxH):List HP:=[blk x (aO o H.lv X.saves H.cs) tTx,aC cY 5 H.lv H.es.length (H.es.flatMap BefE.cells),orP D o ⟨X.cols,X.tabs⟩]
def TxIn (B w:World)(D:PH)(x o:Nat)(X:TxM)(l:List HP):Prop:=∃H,TxOk D X H∧Sat B D w (txL D x o X H++l)
theorem TxOk.mono {D D':PH}(le:PH.le D D'){X:TxM}{H:TxH}(h:TxOk D X H):TxOk D' X H :=
 ⟨h.log.imp (fun _ _ ⟨a,b,c⟩=>⟨a,b,c.mono le⟩),h.curs.imp (fun _ _ ⟨a,b,c,d,e,f,g,i⟩=>⟨a,b,c,d,e,f,g,i.mono le⟩),h.saves,h.three,h.small⟩
section
variable {B w : World} {D D' : PH} {x o : Nat} {X : TxM} {H : TxH} {l : List HP}
theorem cQ (h:Sat B D' w (txL D x o X H++l)):w.cell? ⟨x,0,none⟩=some (.pointer (some ⟨o,0,none⟩))∧w.cell? ⟨x,1,none⟩=some H.lv∧∀j,w.frozen? ⟨x,j,none⟩=false:=by
 have hb:=h.blk 0 rfl
 refine⟨?_,?_,fun j=>by simp [World.frozen?,hb]⟩<;>simp [World.cell?,hb,aO]
theorem go (o:Nat)(lv lv':Value)(sv:List Int)(cs:List CurE):(aO o lv sv cs).setIfInBounds 1 lv'=aO o lv' sv cs:=by simp [aO]
theorem gY (h:Sat B D' w (txL D x o X H++l)):Sat B D' w (orP D o ⟨X.cols,X.tabs⟩::(blk x (aO o H.lv X.saves H.cs) tTx::aC cY 5 H.lv H.es.length (H.es.flatMap BefE.cells)::l)):=h.front 2 rfl
theorem fF (h:Sat B D' w (orP D o ⟨X.cols,X.tabs⟩::(blk x (aO o H.lv X.saves H.cs) tTx::aC cY 5 H.lv H.es.length (H.es.flatMap BefE.cells)::l))):Sat B D' w (txL D x o X H++l) :=
 h.perm (List.perm_middle (l₁:=[blk x (aO o H.lv X.saves H.cs) tTx,aC cY 5 H.lv H.es.length (H.es.flatMap BefE.cells)]) (a:=orP D o ⟨X.cols,X.tabs⟩) (l₂:=l)).symm
theorem dp {y:OrH}{O:OrM}(h:Sat B D' w (orL D o O y++l)):w.cell? ⟨o,0,none⟩=some y.tv∧w.cell? ⟨o,1,none⟩=some y.pv:=by
 obtain⟨a,b,_⟩:=bl (h.blk 0 rfl)
 exact⟨a,b⟩
end
abbrev tBefs : TypeId:=89
theorem pX : (Tryz.prog.info? cY).map (fun i=>(i.zero,i.size,i.bytes))=some (some (.agg #[.int .i64 0,.bool false,.int .i64 0,.string ⟨#[]⟩,.slice none 0 0]),5,64):=by kernel_rfl
theorem gb {X:TxM}{i:Nat}{m:ar}(h:X.tabs[i]?=some m):X.tab (i:Int)=m:=by
 unfold TxM.tab
 rw [Int.toNat_natCast,List.getD_eq_getElem?_getD,h];rfl
theorem r8 {B w:World}{D D' D0:PH}{o:Nat}{O:OrM}{y:OrH}{l:List HP}(le:PH.le D D')(h:Sat B D0 w (orL D o O y++l)):Sat B D0 w (orL D' o O y++l) :=
 ((Sat.swap h).weaken (A':=aX ((y.ts.zip O.tabs).map (dQ D'))) (fun h=>fh _ (fun _ _ _ h=>gN le _ h) h)).swap
theorem OrOk.mono {D D':PH}{O:OrM}{y:OrH}(le:PH.le D D')(h:OrOk D O y):OrOk D' O y:=⟨h.1.mono le,h.2.1.mono le,h.2.2⟩
theorem nJ {B w:World}{D:PH}{x o i:Nat}{X:TxM}{l:List HP}{m:ar}{rv:Value}{r:List Val}{k:Val}(hm:X.tabs[i]?=some m)(hr:RowF D rv r)(h0:r[0]?=some k)(hk:al k=true)(hl:(cA m r).length≤200)(hb:X.log.length+1≤10000)(hrl:r.length≤1000000)(h:TxIn B w D x o X l) :
  Calls Tryz.prog 94 #[.pointer (some ⟨x,0,none⟩),.int .i64 i,rv] w fun e w'=>e = .returned (.tuple #[])∧∃D',PH.le D D'∧TxIn B w' D' x o (X.put i r) l:=by
 obtain⟨i0,hi,hz0,hz1,hz2⟩:=info_parts pX
 have HI:=B5 (And.intro hi (And.intro hz0 (And.intro hz1 hz2)))
 clear hi hz0 hz1 hz2
 have hkr:aG r=k:=by unfold aG;rw [←List.head?_eq_getElem?]at h0;cases r with|nil=>cases h0|cons a t=>simp at h0;subst h0;rfl
 obtain⟨H,hH,hs⟩:=h
 have HH:=B5 hH
 obtain⟨c0,c1,cf⟩:=cQ hs
 obtain⟨y,hy,hs2⟩:=fV (gY hs)
 have HY:=B5 hy
 obtain⟨d0,d1⟩:=dp hs2
 obtain⟨t,g,og,pc,ht,hpv,hpc⟩:=gp hy hm hs2
 rw [hpv]at d1
 have hlt:(i:Int)<(X.tabs.length:Int):=by have:=(List.getElem?_eq_some_iff.1 hm).1;omega
 have HG:=B5 (pd k hm ht hs2.drew)
 have tL:=B5 hs2
 have wG:=B5 (RdP.rd hr.1 hs2)
 obtain⟨ao,rc,rfl⟩:∃ao rc,rv = .slice ao r.length rc:=by obtain⟨_,_,ao,rc,h,_⟩:=hr.1;exact⟨ao,rc,h⟩
 obtain⟨rg,rog,rfl⟩:=eC wG.out h0 rfl
 obtain⟨y0,y1,y2⟩:=aN (h:=0) wG.out h0
 have hlen2:0<r.length:=(List.getElem?_eq_some_iff.1 h0).1
 have hlen:(0:Int)<(r.length:Int):=by omega
 rw [Nat.zero_mul,Nat.add_zero]at y0 y1 y2
 have HM:=B5 hm
 have HR:=B5 hr
 have HT:=B5 ht
 have BG:=B5 hpv
 have HB:=B5 hb
 have HL:=B5 hl
 have HK:=B5 hk
 have xC:=B5 hkr
 have H0:=B5 h0
 generalize hRN:r.length=RN at *
 have xt:=B5 hRN
 generalize hTN:X.tabs.length=TN at *
 have xJ:=B5 hTN
 have xK:=B5 hrl
 clear hm hr ht hpv hb hl hk hkr h0 hH hs hs2 hy hRN hTN hrl
 go_enter Tryz.func94,Tryz.ntmps94
 go_upto_region 0 with fail
 refine af [(0,false,13),(1,false,13),(2,false,13),(3,false,13),(4,false,13),(5,false,13),(6,false,13),(7,false,13),(8,false,13),(9,false,13),(10,false,13),(11,false,13),(12,false,13),(13,true,0),(14,false,999),(15,false,999),(16,false,999),(17,false,999),(18,false,999)] (by kernel_rfl) (by kernel_rfl) ?_
 iterate 13 (refine ae rfl rfl (fun K hK=>?_);go_simp;refine hK _ ?_;clear hK K)
 refine ah rfl ?_
 refine aq rfl (fun K hK=>?_)
 go_simp
 refine(HG.out.mono ?_)
 rintro e1 w1 ⟨v,rfl,hwas,hk1⟩
 obtain⟨ra,rn,rcc,rfl⟩:∃a n c,v = .slice a n c:=by obtain⟨_,_,ao,rc,h,_⟩:=hwas.1;exact⟨ao,_,rc,h⟩
 have wH:=B5 hwas
 have tH:=B5 (tL.out.drew.kept hk1)
 clear hwas hk1 tL HG c0 c1 cf d0 d1 y0 y1 y2
 refine hK _ _ ?_
 clear hK K
 refine wpList_nil ?_
 refine And.intro ?_ ?_
 ·go_simp
 iterate 5 (refine ae rfl rfl (fun K hK=>?_);go_simp;refine hK _ ?_;clear hK K)
 refine ai ?_
 obtain⟨la,lc,hlv⟩:=(tH.out.front 3 rfl).own_shape
 have zT:=B5 hlv
 obtain⟨N,hN⟩:∃N,H.es.length=N:=⟨_,rfl⟩
 have HN:=B5 hN
 have hNb:N+1≤10000:=by have h1:=HH.out.log.len;have h2:=HB.out;omega
 have tP:=B5 (show Sat B D w1 (orL D o ⟨X.cols,X.tabs⟩ y++(blk x (aO o (.slice la N lc) X.saves H.cs) tTx::aC cY 5 (.slice la N lc) N (H.es.flatMap BefE.cells)::l)) by rw [←hN,←hlv];exact tH.out)
 obtain⟨en,hen⟩:∃en:BefE,en=⟨(i:Int),k,⟨ra,rn,rcc⟩⟩:=⟨_,rfl⟩
 have wO:=B5 (show #[Value.int .i64 (i:Int),.bool k.t,.int .i64 k.n,.string k.s,.slice ra rn rcc]=en.cells.toArray by rw [hen];rfl)
 have AA:=B5 hen
 have uG:=B5 (tP.out.blk 2 rfl)
 have c1:w1.cell? ⟨x,1,none⟩=some (.slice la N lc):=by simp [World.cell?,uG.out,aO]
 have zu:=B5 (RdP.rd HR.out.1 tP.out)
 obtain⟨y0,y1,y2⟩:=aN (h:=0) (show Rd w1 3 (.slice (some ⟨rg,rog,none⟩) RN rc) RN (r.flatMap Val.cells)from xt.out▸zu.out) H0.out
 rw [Nat.zero_mul,Nat.add_zero]at y0 y1 y2
 clear hlv hN tH hpc hen uG
 go_upto_region 1 with fail
 refine af [(0,false,15),(1,false,12),(2,false,12),(3,false,12),(4,false,12),(5,false,11),(6,false,11),(7,false,11),(8,false,11),(9,false,11),(10,false,11),(11,true,0),(12,true,0),(13,false,15),(14,false,15),(15,true,0)] (by kernel_rfl) (by kernel_rfl) ?_
 iterate 11 (refine ae rfl rfl (fun K hK=>?_);go_simp;refine hK _ ?_;clear hK K)
 refine ah rfl ?_
 rw [wO.out]
 refine cD rfl _ _ rfl cY i0 _ en.cells rfl Tryz.underlying89 HI.out.1 HI.out.2.1 (HI.out.2.2.1.trans rfl) (by rw [BefE.len];decide) (by rw [BefE.len];decide) ?_
 refine wpList_nil ?_
 obtain⟨W4,hW4,hs4⟩:=Sat.hide (tP.out.drew.alloc en.cells.toArray cY)
 rw [←hW4]
 clear hW4 tP c1 y0 y1 y2 zu
 generalize w1.drew.heap.size=bz at hs4 ⊢
 have tM:=B5 (bM (size:=5) (n:=1) (hs4.blk 0 rfl) (by simp [BefE.len]) (by unfold maxLen;omega))
 have zv:=B5 (RdP.rd HR.out.1 hs4)
 have uG:=B5 (hs4.blk 3 rfl)
 have c1:W4.cell? ⟨x,1,none⟩=some (.slice la N lc):=by simp [World.cell?,uG.out,aO]
 obtain⟨y0,y1,y2⟩:=aN (h:=0) (show Rd W4 3 (.slice (some ⟨rg,rog,none⟩) RN rc) RN (r.flatMap Val.cells)from xt.out▸zv.out) H0.out
 rw [Nat.zero_mul,Nat.add_zero]at y0 y1 y2
 have tU:=B5 (show Sat B D W4 (aC cY 5 (.slice la N lc) N (H.es.flatMap BefE.cells)::blk bz en.cells.toArray cY::(orL D o ⟨X.cols,X.tabs⟩ y++(blk x (aO o (.slice la N lc) X.saves H.cs) tTx::l)))from hs4.front 4 rfl)
 clear hs4 uG zv
 refine And.intro ?_ ?_
 ·go_simp;first|done|exact wO.out
 refine ah rfl ?_
 refine aF _ rfl _ _ tBefs rfl cY i0 _ 5 64 Tryz.underlying89 HI.out.1 HI.out.2.1 HI.out.2.2.1 HI.out.2.2.2 rfl _ N _ rfl tU.out _ 1 _ rfl tM.out (by simpa using BefE.one en) (by unfold maxLen;omega) (by omega) ?_
 intro v7 w7 hs7 h17
 refine wpList_nil ?_
 clear c1 y0 y1 y2 tU tM
 obtain⟨va,vc,rfl⟩:∃va vc,v7 = .slice va (N+1) vc:=hs7.own_shape
 have tJ:=B5 (show Sat B D w7 (blk x (aO o (.slice la N lc) X.saves H.cs) tTx::aC cY 5 (.slice va (N+1) vc) (N+1) (H.es.flatMap BefE.cells++en.cells.toArray.toList)::blk bz en.cells.toArray cY::(orL D o ⟨X.cols,X.tabs⟩ y++l))from hs7.front 4 rfl)
 have uG:=B5 (tJ.out.blk 0 rfl)
 have c1:w7.cell? ⟨x,1,none⟩=some (.slice la N lc):=by simp [World.cell?,uG.out,aO]
 have cf:∀j,w7.frozen? ⟨x,j,none⟩=false:=fun j=>by simp [World.frozen?,uG.out]
 have uv:=B5 (show Sat B D (w7.setCell ⟨x,1,none⟩ (.slice va (N+1) vc)) (blk x (aO o (.slice va (N+1) vc) X.saves H.cs) tTx::aC cY 5 (.slice va (N+1) vc) (N+1) (H.es.flatMap BefE.cells++en.cells.toArray.toList)::blk bz en.cells.toArray cY::(orL D o ⟨X.cols,X.tabs⟩ y++l))from go o (.slice la N lc) (.slice va (N+1) vc) X.saves H.cs▸Sat.set tJ.out 1 (.slice va (N+1) vc))
 clear hs7 h17 uG tJ
 refine And.intro ?_ ?_
 ·go_simp
 iterate 2 (refine ae rfl rfl (fun K hK=>?_);go_simp;refine hK _ ?_;clear hK K)
 refine ah rfl ?_
 refine wpList_plain rfl (fun K hK=>?_)
 go_simp
 refine hK _ _ ?_
 clear hK K
 refine wpList_nil ?_
 refine And.intro ?_ ?_
 ·go_simp
 refine ai ?_
 obtain⟨W8,hW8⟩:∃W,W=w7.setCell ⟨x,1,none⟩ (.slice va (N+1) vc):=⟨_,rfl⟩
 rw [←hW8]at uv ⊢
 clear hW8 c1 cf
 have tY:=B5 (show Sat B D W8 (orL D o ⟨X.cols,X.tabs⟩ y++(blk x (aO o (.slice va (N+1) vc) X.saves H.cs) tTx::aC cY 5 (.slice va (N+1) vc) (N+1) (H.es.flatMap BefE.cells++en.cells.toArray.toList)::l))from((uv.out.front 2 rfl).drop.front 2 rfl).front 3 rfl |>.front 1 rfl)
 clear uv
 obtain⟨t2,g2,og2,pc2,ht2,hpv2,hpc2⟩:=gp HY.out HM.out tY.out
 obtain⟨d0,d1⟩:=dp tY.out
 rw [hpv2]at d1
 have AB:=B5 hpv2
 have BH:=B5 hpc2
 have uh:=B5 ht2
 have uG:=B5 (tY.out.blk 2 rfl)
 have c0:W8.cell? ⟨x,0,none⟩=some (.pointer (some ⟨o,0,none⟩)):=by simp [World.cell?,uG.out,aO]
 rw [show List.length (OrM.tabs ⟨X.cols,X.tabs⟩)=TN from xJ.out]at d1
 have zw:=B5 (RdP.rd HR.out.1 tY.out)
 obtain⟨y0,y1,y2⟩:=aN (h:=0) (show Rd W8 3 (.slice (some ⟨rg,rog,none⟩) RN rc) RN (r.flatMap Val.cells)from xt.out▸zw.out) H0.out
 rw [Nat.zero_mul,Nat.add_zero]at y0 y1 y2
 have vW:=B5 (gO (RdP.rd HR.out.1 tY.out.drew) (xt.out.symm▸xK.out) tY.out.drew)
 clear ht2 hpv2 uG tY zw
 go_upto_region 2 with fail
 refine af [(0,false,15),(1,false,15),(2,false,15),(3,false,15),(4,false,15),(5,false,15),(6,false,15),(7,false,15),(8,false,15),(9,false,15),(10,false,15),(11,false,15),(12,false,15),(13,false,14),(14,true,0),(15,true,0)] (by kernel_rfl) (by kernel_rfl) ?_
 iterate 14 (refine ae rfl rfl (fun K hK=>?_);go_simp;refine hK _ ?_;clear hK K)
 refine ah rfl ?_
 refine aq rfl (fun K hK=>?_)
 go_simp
 refine vW.out.mono ?_
 rintro e9 w9 ⟨v9,rfl,hs9⟩
 obtain⟨D9,hle,hrd9,hs9⟩:=hs9.own_give
 have ub:=B5 hle
 have BI:=B5 (show RowF D9 v9 r from⟨hrd9,HR.out.2⟩)
 have uZ:=B5 (r8 hle hs9)
 have Bc:=B5 (HY.out.mono hle)
 obtain⟨a9,n9,b9,rfl⟩:∃a n c,v9 = .slice a n c:=by obtain⟨_,_,ao,rc,h,_⟩:=hrd9;exact⟨ao,_,rc,h⟩
 clear vW c0 d0 d1 y0 y1 y2 hpc2 hle hrd9 hs9
 obtain⟨t3,g3,og3,pc3,ht3,hpv3,hpc3⟩:=gp Bc.out HM.out uZ.out
 obtain rfl:t3=t2:=Option.some.inj (ht3.symm.trans uh.out)
 have hpe:=hpv3.symm.trans AB.out
 cases hpe
 obtain⟨d0,d1⟩:=dp uZ.out
 rw [hpv3]at d1
 rw [show List.length (OrM.tabs ⟨X.cols,X.tabs⟩)=TN from xJ.out]at d1
 have uG:=B5 (uZ.out.blk 2 rfl)
 have c0:w9.cell? ⟨x,0,none⟩=some (.pointer (some ⟨o,0,none⟩)):=by simp [World.cell?,uG.out,aO]
 have zz:=B5 (RdP.rd (HR.out.mono ub.out).1 uZ.out)
 obtain⟨y0,y1,y2⟩:=aN (h:=0) (show Rd w9 3 (.slice (some ⟨rg,rog,none⟩) RN rc) RN (r.flatMap Val.cells)from xt.out▸zz.out) H0.out
 rw [Nat.zero_mul,Nat.add_zero]at y0 y1 y2
 have wI:=B5 (sj ⟨a9,n9,b9⟩ r Bc.out HM.out ht3 BI.out (xC.out.symm▸HK.out) HL.out uZ.out)
 rw [xC.out]at wI
 clear ht3 hpv3 uG zz
 refine hK _ _ ?_
 clear hK K
 refine wpList_nil ?_
 refine And.intro ?_ ?_
 ·go_simp
 refine ah rfl ?_
 refine aq rfl (fun K hK=>?_)
 go_simp
 refine wI.out.mono ?_
 rintro eA wA ⟨bA,rfl,hsA⟩
 have uw:=B5 hsA
 clear hsA wI uZ c0 d0 d1 y0 y1 y2 hpc3
 refine hK _ _ ?_
 clear hK K
 refine wpList_nil ?_
 refine And.intro ?_ ?_
 ·go_simp
 refine ai ?_
 go_wp2_with fail
 go_end0
 have hX:X.put (i:Int) r=⟨X.cols,X.tabs.set i (cA m r),X.log ++ [⟨(i:Int),k,(aU m k).getD []⟩],X.saves,X.curs⟩:=by
  unfold TxM.put
  rw [gb HM.out,xC.out]
  rfl
 rw [hX]
 have hok:=HH.out.mono ub.out
 refine⟨rfl,D9,ub.out,⟨.slice va (N+1) vc,H.es ++ [en],H.cs⟩,⟨?_,hok.curs,hok.saves,hok.three,?_⟩,?_⟩
 ·refine hok.log.snoc ?_
  rw [AA.out]
  exact⟨rfl,rfl,wH.out.mono ub.out⟩
 ·rw [List.length_append];exact HB.out
 ·refine fF (X:=⟨X.cols,X.tabs.set i (cA m r),X.log ++ [⟨(i:Int),k,(aU m k).getD []⟩],X.saves,X.curs⟩) (H:=⟨.slice va (N+1) vc,H.es ++ [en],H.cs⟩) ?_
  show Sat B D9 wA (_::_::aC cY 5 _ (H.es ++ [en]).length ((H.es ++ [en]).flatMap BefE.cells)::l)
  rw [List.length_append,HN.out,List.flatMap_append,List.flatMap_singleton]
  exact uw.out
theorem oL {B w:World}{D:PH}{x o i:Nat}{X:TxM}{l:List HP}{m:ar}{k:Val}(hm:X.tabs[i]?=some m)(hk:al k=true)(hb:X.log.length+1≤10000)(h:TxIn B w D x o X l) :
  Calls Tryz.prog 98 #[.pointer (some ⟨x,0,none⟩),.int .i64 i,k.v] w fun e w'=>e = .returned (.tuple #[])∧TxIn B w' D x o (X.out i k) l:=by
 obtain⟨i0,hi,hz0,hz1,hz2⟩:=info_parts pX
 have HI:=B5 (And.intro hi (And.intro hz0 (And.intro hz1 hz2)))
 clear hi hz0 hz1 hz2
 obtain⟨H,hH,hs⟩:=h
 have HH:=B5 hH
 obtain⟨y,hy,hs1⟩:=fV (gY hs)
 have HY:=B5 hy
 obtain⟨W0,hW0,hs2⟩:=Sat.hide (hs1.alloc k.cells.toArray tV)
 have ul:=B5 (show W0=w.alloc (.cells #[.bool k.t,.int .i64 k.n,.string k.s] tV)from hW0)
 have hs2:Sat B D W0 (orL D o ⟨X.cols,X.tabs⟩ y++(blk w.heap.size k.cells.toArray tV::blk x (aO o H.lv X.saves H.cs) tTx::aC cY 5 H.lv H.es.length (H.es.flatMap BefE.cells)::l)):=((hs2.front 1 rfl).front 2 rfl).front 1 rfl
 obtain⟨d0,d1⟩:=dp hs2
 obtain⟨t,g,og,pc,ht,hpv,hpc⟩:=gp hy hm hs2
 rw [hpv]at d1
 have hlt:(i:Int)<(X.tabs.length:Int):=by have:=(List.getElem?_eq_some_iff.1 hm).1;omega
 have AC:=B5 (show W0.heap[w.heap.size]?=some (.cells #[.bool k.t,.int .i64 k.n,.string k.s] tV (0,0))from hs2.blk 2 rfl)
 have zA:=B5 (hs2.blk 3 rfl)
 have HG:=B5 (pd k hm ht hs2.drew)
 have tL:=B5 hs2
 have HM:=B5 hm
 have HT:=B5 ht
 have BG:=B5 hpv
 have HB:=B5 hb
 have HK:=B5 hk
 have xW:=B5 hpc
 have D1:=B5 d1
 generalize hTN:X.tabs.length=TN at *
 have xJ:=B5 hTN
 clear hm ht hpv hb hk hH hs hs1 hs2 hy hTN hW0 hpc d1 d0
 go_enter Tryz.func98,Tryz.ntmps98
 go_upto_region 1 with fail
 rw [←ul.out]
 clear ul
 generalize w.heap.size=bk at AC tL ⊢
 obtain⟨x0,x1,x2,xf⟩:=aT AC.out
 have c0:W0.cell? ⟨x,0,none⟩=some (.pointer (some ⟨o,0,none⟩)):=by simp [World.cell?,zA.out,aO]
 have hpc:=xW.out
 have d1:=D1.out
 refine af [(0,false,11),(1,false,11),(2,false,11),(3,false,11),(4,false,11),(5,false,11),(6,false,11),(7,false,11),(8,false,11),(9,false,11),(10,false,11),(11,true,0),(12,false,999),(13,false,999),(14,false,999),(15,false,999),(16,false,999)] (by kernel_rfl) (by kernel_rfl) ?_
 iterate 11 (refine ae rfl rfl (fun K hK=>?_);go_simp;refine hK _ ?_;clear hK K)
 refine ah rfl ?_
 refine aq rfl (fun K hK=>?_)
 go_simp
 refine(HG.out.mono ?_)
 rintro e1 w1 ⟨v,rfl,hwas,hk1⟩
 obtain⟨ra,rn,rcc,rfl⟩:∃a n c,v = .slice a n c:=by obtain⟨_,_,ao,rc,h,_⟩:=hwas.1;exact⟨ao,_,rc,h⟩
 have wH:=B5 hwas
 have tH:=B5 (tL.out.drew.kept hk1)
 clear hwas hk1 tL HG c0 d1 x0 x1 x2 xf hpc AC zA
 refine hK _ _ ?_
 clear hK K
 refine wpList_nil ?_
 refine And.intro ?_ ?_
 ·go_simp
 iterate 5 (refine ae rfl rfl (fun K hK=>?_);go_simp;refine hK _ ?_;clear hK K)
 refine ai ?_
 obtain⟨la,lc,hlv⟩:=(tH.out.front 4 rfl).own_shape
 have zT:=B5 hlv
 obtain⟨N,hN⟩:∃N,H.es.length=N:=⟨_,rfl⟩
 have HN:=B5 hN
 have hNb:N+1≤10000:=by have h1:=HH.out.log.len;have h2:=HB.out;omega
 have tP:=B5 (show Sat B D w1 (orL D o ⟨X.cols,X.tabs⟩ y++(blk bk k.cells.toArray tV::blk x (aO o (.slice la N lc) X.saves H.cs) tTx::aC cY 5 (.slice la N lc) N (H.es.flatMap BefE.cells)::l)) by rw [←hN,←hlv];exact tH.out)
 obtain⟨en,hen⟩:∃en:BefE,en=⟨(i:Int),k,⟨ra,rn,rcc⟩⟩:=⟨_,rfl⟩
 have wO:=B5 (show #[Value.int .i64 (i:Int),.bool k.t,.int .i64 k.n,.string k.s,.slice ra rn rcc]=en.cells.toArray by rw [hen];rfl)
 have AA:=B5 hen
 have uG:=B5 (tP.out.blk 3 rfl)
 have c1:w1.cell? ⟨x,1,none⟩=some (.slice la N lc):=by simp [World.cell?,uG.out,aO]
 obtain⟨x0,x1,x2,xf⟩:=aT (show w1.heap[bk]?=some (.cells #[.bool k.t,.int .i64 k.n,.string k.s] tV (0,0))from tP.out.blk 2 rfl)
 clear hlv hN tH hen uG
 go_upto_region 2 with fail
 refine af [(0,false,13),(1,false,10),(2,false,10),(3,false,10),(4,false,10),(5,false,9),(6,false,9),(7,false,9),(8,false,9),(9,true,0),(10,true,0),(11,false,13),(12,false,13),(13,true,0)] (by kernel_rfl) (by kernel_rfl) ?_
 iterate 9 (refine ae rfl rfl (fun K hK=>?_);go_simp;refine hK _ ?_;clear hK K)
 refine ah rfl ?_
 rw [wO.out]
 refine cD rfl _ _ rfl cY i0 _ en.cells rfl Tryz.underlying89 HI.out.1 HI.out.2.1 (HI.out.2.2.1.trans rfl) (by rw [BefE.len];decide) (by rw [BefE.len];decide) ?_
 refine wpList_nil ?_
 obtain⟨W4,hW4,hs4⟩:=Sat.hide (tP.out.drew.alloc en.cells.toArray cY)
 rw [←hW4]
 clear hW4 tP c1 x0 x1 x2 xf
 generalize w1.drew.heap.size=bz at hs4 ⊢
 have tM:=B5 (bM (size:=5) (n:=1) (hs4.blk 0 rfl) (by simp [BefE.len]) (by unfold maxLen;omega))
 have uG:=B5 (hs4.blk 4 rfl)
 have c1:W4.cell? ⟨x,1,none⟩=some (.slice la N lc):=by simp [World.cell?,uG.out,aO]
 obtain⟨x0,x1,x2,xf⟩:=aT (show W4.heap[bk]?=some (.cells #[.bool k.t,.int .i64 k.n,.string k.s] tV (0,0))from hs4.blk 3 rfl)
 have tU:=B5 (show Sat B D W4 (aC cY 5 (.slice la N lc) N (H.es.flatMap BefE.cells)::blk bz en.cells.toArray cY::(orL D o ⟨X.cols,X.tabs⟩ y++(blk bk k.cells.toArray tV::blk x (aO o (.slice la N lc) X.saves H.cs) tTx::l)))from hs4.front 5 rfl)
 clear hs4 uG
 refine And.intro ?_ ?_
 ·go_simp;first|done|exact wO.out
 refine ah rfl ?_
 refine aF _ rfl _ _ tBefs rfl cY i0 _ 5 64 Tryz.underlying89 HI.out.1 HI.out.2.1 HI.out.2.2.1 HI.out.2.2.2 rfl _ N _ rfl tU.out _ 1 _ rfl tM.out (by simpa using BefE.one en) (by unfold maxLen;omega) (by omega) ?_
 intro v7 w7 hs7 h17
 refine wpList_nil ?_
 clear c1 x0 x1 x2 xf tU tM
 obtain⟨va,vc,rfl⟩:∃va vc,v7 = .slice va (N+1) vc:=hs7.own_shape
 have tJ:=B5 (show Sat B D w7 (blk x (aO o (.slice la N lc) X.saves H.cs) tTx::aC cY 5 (.slice va (N+1) vc) (N+1) (H.es.flatMap BefE.cells++en.cells.toArray.toList)::blk bz en.cells.toArray cY::(orL D o ⟨X.cols,X.tabs⟩ y++(blk bk k.cells.toArray tV::l)))from hs7.front 5 rfl)
 have uG:=B5 (tJ.out.blk 0 rfl)
 have c1:w7.cell? ⟨x,1,none⟩=some (.slice la N lc):=by simp [World.cell?,uG.out,aO]
 have cf:∀j,w7.frozen? ⟨x,j,none⟩=false:=fun j=>by simp [World.frozen?,uG.out]
 obtain⟨x0,x1,x2,xf⟩:=aT (show w7.heap[bk]?=some (.cells #[.bool k.t,.int .i64 k.n,.string k.s] tV (0,0))from tJ.out.blk 5 rfl)
 have uv:=B5 (show Sat B D (w7.setCell ⟨x,1,none⟩ (.slice va (N+1) vc)) (blk x (aO o (.slice va (N+1) vc) X.saves H.cs) tTx::aC cY 5 (.slice va (N+1) vc) (N+1) (H.es.flatMap BefE.cells++en.cells.toArray.toList)::blk bz en.cells.toArray cY::(orL D o ⟨X.cols,X.tabs⟩ y++(blk bk k.cells.toArray tV::l)))from go o (.slice la N lc) (.slice va (N+1) vc) X.saves H.cs▸Sat.set tJ.out 1 (.slice va (N+1) vc))
 clear hs7 h17 uG tJ
 refine And.intro ?_ ?_
 ·go_simp
 iterate 2 (refine ae rfl rfl (fun K hK=>?_);go_simp;refine hK _ ?_;clear hK K)
 refine ah rfl ?_
 refine wpList_plain rfl (fun K hK=>?_)
 go_simp
 refine hK _ _ ?_
 clear hK K
 refine wpList_nil ?_
 refine And.intro ?_ ?_
 ·go_simp
 refine ai ?_
 obtain⟨W8,hW8⟩:∃W,W=w7.setCell ⟨x,1,none⟩ (.slice va (N+1) vc):=⟨_,rfl⟩
 rw [←hW8]at uv ⊢
 clear hW8 c1 cf x0 x1 x2 xf
 have tY:=B5 (show Sat B D W8 (orL D o ⟨X.cols,X.tabs⟩ y++(blk x (aO o (.slice va (N+1) vc) X.saves H.cs) tTx::aC cY 5 (.slice va (N+1) vc) (N+1) (H.es.flatMap BefE.cells++en.cells.toArray.toList)::(blk bk k.cells.toArray tV::l)))from((uv.out.front 2 rfl).drop.front 2 rfl).front 3 rfl |>.front 1 rfl)
 clear uv
 obtain⟨t2,g2,og2,pc2,ht2,hpv2,hpc2⟩:=gp HY.out HM.out tY.out
 obtain⟨d0,d1⟩:=dp tY.out
 rw [hpv2]at d1
 have uG:=B5 (tY.out.blk 2 rfl)
 have c0:W8.cell? ⟨x,0,none⟩=some (.pointer (some ⟨o,0,none⟩)):=by simp [World.cell?,uG.out,aO]
 obtain⟨x0,x1,x2,xf⟩:=aT (show W8.heap[bk]?=some (.cells #[.bool k.t,.int .i64 k.n,.string k.s] tV (0,0))from tY.out.blk 4 rfl)
 rw [show List.length (OrM.tabs ⟨X.cols,X.tabs⟩)=TN from xJ.out]at d1
 have zB:=B5 (tj k HY.out HM.out ht2 HK.out tY.out.drew)
 clear ht2 hpv2 uG tY
 go_upto_region 3 with fail
 refine af [(0,false,11),(1,false,11),(2,false,11),(3,false,11),(4,false,11),(5,false,11),(6,false,11),(7,false,11),(8,false,11),(9,false,11),(10,false,11),(11,true,0)] (by kernel_rfl) (by kernel_rfl) ?_
 iterate 11 (refine ae rfl rfl (fun K hK=>?_);go_simp;refine hK _ ?_;clear hK K)
 refine ah rfl ?_
 refine aq rfl (fun K hK=>?_)
 go_simp
 refine zB.out.mono ?_
 rintro eA wA ⟨bA,rfl,hsA⟩
 have uw:=B5 hsA
 clear hsA zB c0 d0 d1 x0 x1 x2 xf hpc2
 refine hK _ _ ?_
 clear hK K
 refine wpList_nil ?_
 refine And.intro ?_ ?_
 ·go_simp
 refine ai ?_
 go_wp2_with fail
 go_end0
 have hX:X.out (i:Int) k=⟨X.cols,X.tabs.set i (dj m k),X.log ++ [⟨(i:Int),k,(aU m k).getD []⟩],X.saves,X.curs⟩:=by
  unfold TxM.out
  rw [gb HM.out]
  rfl
 rw [hX]
 have hok:=HH.out
 refine⟨rfl,⟨.slice va (N+1) vc,H.es ++ [en],H.cs⟩,⟨?_,hok.curs,hok.saves,hok.three,?_⟩,?_⟩
 ·refine hok.log.snoc ?_
  rw [AA.out]
  exact⟨rfl,rfl,wH.out⟩
 ·rw [List.length_append];exact HB.out
 ·refine fF (X:=⟨X.cols,X.tabs.set i (dj m k),X.log ++ [⟨(i:Int),k,(aU m k).getD []⟩],X.saves,X.curs⟩) (H:=⟨.slice va (N+1) vc,H.es ++ [en],H.cs⟩) ?_
  show Sat B D wA (_::_::aC cY 5 _ (H.es ++ [en]).length ((H.es ++ [en]).flatMap BefE.cells)::l)
  rw [List.length_append,HN.out,List.flatMap_append,List.flatMap_singleton]
  exact(uw.out.front 3 rfl).drop
end Go.Proofs.YtdobimafhbfkhaaGreat
