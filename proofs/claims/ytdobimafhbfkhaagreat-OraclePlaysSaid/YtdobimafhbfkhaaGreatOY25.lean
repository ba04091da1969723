/- The tree: Get, by what the tree stands for, and what follows. -/
import Derived.Test.YtdobimafhbfkhaaGreatOY24
import Derived.Test.YtdobimafhbfkhaaGreatOY20
import Derived.Test.YtdobimafhbfkhaaGreatOY11
import Derived.Test.YtdobimafhbfkhaaGreatOY8
import Derived.Test.YtdobimafhbfkhaaGreatOY19
set_option maxHeartbeats 64000000
namespace Go.Proofs.YtdobimafhbfkhaaGreat
open Go.ChangeShapes Go.WideShapes Go.ChangeAt Go.RowKit
set_option maxRecDepth 100000
set_option linter.unusedSimpArgs false
def lP (L:PL)(k:Val):Option (Val×VT):=L.find? (fun p=>decide (p.1=k))
def qY (L:PL)(k:Val):Bool:=(lP L k).isSome
def rX (L:PL)(k:Val):VT:=match lP L k with
 | some p=>p.2
 | none=>RowT.none
theorem vd {L:PL}{k:Val}{v:VT}(hs:bh L)(h:(k,v)∈L):lP L k=some (k,v):=by
 unfold lP;cases hf:L.find? (fun p=>decide (p.1=k))with
 | none=>exact absurd (List.find?_eq_none.1 hf _ h) (by simp)
 | some q =>
  have h1:=List.mem_of_find?_eq_some hf;have h2:q.1=k:=by have:=List.find?_some hf;simpa using this
  obtain⟨i,hi,hi2⟩:=List.mem_iff_getElem.1 h1;obtain⟨j,hj,hj2⟩:=List.mem_iff_getElem.1 h;rcases Nat.lt_trichotomy i j with hlt|rfl|hlt
  ·have:=List.pairwise_iff_getElem.1 hs i j hi hj hlt
   rw [hi2,hj2,h2]at this;rw [dd]at this;omega
  ·rw [←hi2,hj2]
  ·have:=List.pairwise_iff_getElem.1 hs j i hj hi hlt
   rw [hi2,hj2,h2]at this;rw [dd]at this;omega
theorem getP_no {L:PL}{k:Val}(h:cL L k=false):lP L k=none:=by
 unfold lP;refine List.find?_eq_none.2 (fun x hx e=>?_);have e1:x.1=k:=by simpa using e
 have:=List.any_eq_false.1 h x hx;rw [e1,dd]at this;simp at this
theorem rU {L:PL}{k:Val}(hr:fW L)(hk:am k=false):lP L k=none:=by
 unfold lP;refine List.find?_eq_none.2 (fun x hx e=>?_);have e1:x.1=k:=by simpa using e
 have:=hr x hx;rw [e1,hk]at this;cases this
theorem qh {T:TM}{k:Val}:∀(d i:Nat) (L:PL) (ids:List Nat),Rep T.nodes d i L ids→(∀m,T.nodes[i]?=some m→m.size≤4) →
  ∃(j:Nat) (m:NodeM) (A Bs:PL),T.Leads k d i j∧T.nodes[j]?=some m∧m.keys.length≤4∧m.vals.length=m.keys.length∧L=A++m.keys.zip m.vals++Bs∧(∀x∈A,ai x.1 k<0)∧(∀x∈Bs,ai k x.1<0)
 | 0,i,L,ids,⟨m,hm,h1,h2,h3,h4,h5⟩,hz=>by
  have hm4:=hz m hm;have hkl:m.keys.length≤4:=by unfold NodeM.size at hm4;rw [h1,if_pos rfl]at hm4;exact hm4
  exact⟨i,m,[],[],.leaf hm h1,hm,hkl,h3,by simpa using h4,by simp,by simp⟩
 | d+1,i,L,ids,⟨m,hm,h1,h2,cs,h3,h4,h5,h6,h7,h8,h9⟩,hz=>by
  have hkids:m.kids.length≤4:=by have:=hz m hm;unfold NodeM.size at this;rw [h1]at this;simpa using this
  have hkc:m.kids.length=cs.length:=by rw [h3,FZ]
  obtain⟨A,c,Bs,rfl,e1,e2,e3,e4⟩:=mv k h4 h6 h7;obtain⟨hr,m',hm',_,hf⟩:=h5 c (by simp);obtain⟨j,mj,A',B',g1,g2,g3,g4,g5,g6,g7⟩:=qh d c.id c.L c.ids hr (fun m'' hm''=>by rw [hm']at hm'';cases hm'';exact hf);refine⟨j,mj,A.flatMap Kid.L++A',B'++Bs.flatMap Kid.L,.inner hm h1 (by omega) (by rw [←e1,h3];simp) g1,g2,g3,g4,?_,?_,?_⟩
  ·rw [h8,FT,F1,g5];simp
  ·intro x hx
   rcases F2.1 hx with hx|hx
   ·exact e2 x hx
   ·exact g6 x hx
  ·intro x hx
   rcases F2.1 hx with hx|hx
   ·exact g7 x hx
   ·exact e3 x hx
theorem Get_ok {B w:World}{D:PH}{t:Nat}{T:TM}{L:PL}{l:List HP}(k:Val)(hG:Good T L)(h:TreeA B D w t T l) :
  Calls Tryz.prog 93 #[.pointer (some ⟨t,0,none⟩),k.v] w fun e w'=>e = .returned (.tuple #[(rX L k).v,.bool (qY L k)])∧Kept (fun _=>False) w w':=by
 rcases hG.rep with ⟨hr0,rfl,hd0,hp⟩|⟨r,d,ids,m,hroot,hdep,hR,hp,hm,hm1,hm4⟩
 ·exact wo (k:=k) (h.nil_of hr0)
 ·obtain⟨j,mj,A,Bs,g1,g2,g3,g4,g5,g6,g7⟩:=qh (k:=k) d r L ids hR (fun m' hm'=>by rw [hm]at hm';cases hm';exact hm4)
  have key:=Get_at (k:=k) hroot g1 g2 (by omega) g4 h;have hsz:bh (mj.keys.zip mj.vals):=gO (by rw [←g5];exact hG.sorted);have hsk:=eO g4 hsz;have e1:mj.has k=qY L k∧mj.get k=rX L k:=by
   unfold NodeM.has NodeM.get;cases hk:am k
   ·unfold qY rX
    rw [rU hG.right hk];exact⟨rfl,rfl⟩
   ·cases hb:dW mj.keys k
    ·have h2:=(jx (v:=RowT.none) g4 hsz hb).2
     have h3:cL L k=false:=by rw [g5,jS g6 g7];exact h2
     unfold qY rX;rw [getP_no h3];exact⟨rfl,rfl⟩
    ·obtain⟨x,hx,hx0⟩:=(gn (ks:=mj.keys) k).1 hb
     have hlt:=(FO.1 hx).1;obtain⟨y,hy⟩:∃y,mj.vals[bg mj.keys k]?=some y:=⟨_,FP (by omega)⟩;have hz:(mj.keys.zip mj.vals)[bg mj.keys k]?=some (x,y):=List.getElem?_zip_eq_some.2 ⟨hx,hy⟩;have hmem:(x,y)∈L:=by rw [g5];simp [FQ hz]
     obtain rfl:x=k:=jm (hG.right _ hmem) hk hx0;unfold qY rX;rw [vd hG.sorted hmem,FW,hy];exact⟨rfl,rfl⟩
  rw [e1.1,e1.2]at key;exact key
theorem qP {d:Nat}:∀(cs:List Kid),(∀c∈cs,2 ^ d≤c.L.length∧c.ids.length+1≤c.L.length)→cs.length*2 ^ d≤(cs.flatMap Kid.L).length∧(cs.flatMap Kid.ids).length+cs.length≤(cs.flatMap Kid.L).length
 | [],_=>by simp
 | c::cs,h=>by
  obtain⟨h1,h2⟩:=qP cs (fun c' hc'=>h c' (F4 _ hc'));obtain⟨h3,h4⟩:=h c (Gc ..);rw [F1,F1,List.length_cons,FR,FR,Nat.add_mul,Nat.one_mul];omega
theorem se {nodes:List NodeM}:∀ {d i:Nat} {L:PL} {ids:List Nat},Rep nodes d i L ids→(∃m,nodes[i]?=some m∧2≤m.size)→2 ^ (d+1)≤L.length∧ids.length+1≤L.length
 | 0,i,L,ids,⟨m,h,h1,h2,h3,h4,h5⟩,⟨m',h',hs⟩=>by
  rw [h]at h';cases h';unfold NodeM.size at hs;rw [h1,if_pos rfl]at hs;have:L.length=m.keys.length:=by rw [h4,List.length_zip,h3];omega
  rw [this,h5];simp;omega
 | d+1,i,L,ids,⟨m,h,h1,h2,cs,h3,h4,h5,_,_,h8,h9⟩,⟨m',h',hs⟩=>by
  rw [h]at h';cases h';unfold NodeM.size at hs;rw [h1,h3,FZ]at hs;obtain⟨g1,g2⟩:=qP (d:=d+1) cs (fun c hc=>by
   obtain⟨hr,m1,hm1,hz,_⟩:=h5 c hc;exact se hr ⟨m1,hm1,hz⟩)
  have hs2:2≤cs.length:=by simpa using hs
  have h6:2*2 ^ (d+1)≤cs.length*2 ^ (d+1):=Nat.mul_le_mul_right _ hs2;rw [h8,h9,List.length_cons,Nat.pow_succ 2 (d+1)];omega
theorem u8' {nodes:List NodeM}{d i:Nat}{L:PL}{ids:List Nat}{m:NodeM}(h:Rep nodes d i L ids)(hm:nodes[i]?=some m)(hz:(if m.leaf then 1 else 2)≤m.size):2 ^ d≤L.length∧ids.length≤L.length:=by
 cases d with
 | zero =>
  obtain⟨m',h',h1,h2,h3,h4,h5⟩:=h;rw [hm]at h';cases h';rw [h1,if_pos rfl]at hz;unfold NodeM.size at hz;rw [h1,if_pos rfl]at hz;have:L.length=m.keys.length:=by rw [h4,List.length_zip,h3];omega
  rw [this,h5];simp;omega
 | succ d =>
  have hl:m.leaf=false:=by
   obtain⟨m',h',h1,_⟩:=h;rw [hm]at h';cases h';exact h1
  rw [hl]at hz;have:=se h ⟨m,hm,by simpa using hz⟩;have h2:2 ^ (d+1)≤2 ^ (d+1+1):=Nat.pow_le_pow_right (by omega) (by omega);omega
structure Shape (T:TM)(L:PL):Prop where
 free:T.free.length≤T.nodes.length
 used:T.nodes.length≤T.free.length+L.length
 depth:(L = []∧T.k.depth=0∧T.nodes.length=T.free.length)∨(1≤L.length∧T.free.length+1≤T.nodes.length∧∃d:Nat,T.k.depth=(d:Int)+1∧2 ^ d≤L.length)
theorem Good.shape {T:TM}{L:PL}(h:Good T L):Shape T L:=by
 rcases h.rep with ⟨hr0,rfl,hd0,hp⟩|⟨r,d,ids,m,hroot,hdep,hR,hp,hm,hm1,hm4⟩
 ·have e:=hp.length_eq
  simp at e;exact⟨by omega,by omega,.inl ⟨rfl,hd0,e.symm⟩⟩
 ·have e:=hp.length_eq
  have hpos:=List.length_pos_of_mem hR.self;obtain⟨g1,g2⟩:=u8' hR hm hm1;simp at e;exact⟨by omega,by omega,.inr ⟨by omega,by omega,d,hdep,g1⟩⟩
theorem sV {d n:Nat}(h:2 ^ d≤n)(hn:n≤200):d≤7:=by
 by_cases hd:d≤7
 ·exact hd
 ·have:2 ^ 8≤2 ^ d:=Nat.pow_le_pow_right (by omega) (by omega)
  omega
abbrev tOr : TypeId:=84
def TblsAt (D:PH)(v:Value)(ts:List (List Bool)):Prop:=∃hs:List Value,hs.length=ts.length∧(∀u∈hs,u.oneCell'=true)∧RdP D 1 v ts.length hs∧∀(i:Nat) (h:Value) (r:List Bool),hs[i]?=some h→ts[i]?=some r→RdP D 1 h r.length (r.flatMap dt)
def TblsRd (w:World)(v:Value)(ts:List (List Bool)):Prop:=∃hs:List Value,hs.length=ts.length∧Rd w 1 v ts.length hs∧∀(i:Nat) (h:Value) (r:List Bool),hs[i]?=some h→ts[i]?=some r→Rd w 1 h r.length (r.flatMap dt)
theorem TblsAt.mono {D D':PH}(le:PH.le D D'){v:Value}{ts:List (List Bool)}(h:TblsAt D v ts):TblsAt D' v ts:=by
 obtain⟨hs,h1,h2,h3,h4⟩:=h;exact⟨hs,h1,h2,h3.mono le,fun i u r a b=>(h4 i u r a b).mono le⟩
theorem TblsAt.rd {B w:World}{D:PH}{l:List HP}(hs:Sat B D w l){v:Value}{ts:List (List Bool)}(h:TblsAt D v ts):TblsRd w v ts:=by
 obtain⟨us,h1,h2,h3,h4⟩:=h;exact⟨us,h1,h3.rd hs,fun i u r a b=>(h4 i u r a b).rd hs⟩
theorem TblsRd.kept {w w':World}(k:Kept (fun _=>False) w w'){v:Value}{ts:List (List Bool)}(h:TblsRd w v ts):TblsRd w' v ts:=by
 obtain⟨hs,h1,h2,h3⟩:=h;exact⟨hs,h1,h2.kept k (fun _ _ h=>h),fun i u r a b=>(h3 i u r a b).kept k (fun _ _ h=>h)⟩
def uQ (t:Nat)(T:TM):HP:=exP (fun x:Value×Value×List NP=>x.2.2.map Prod.snd=T.nodes) (fun x=>[blk t (aM x.1 x.2.1 T.k) tT,aD tN 4 x.1 x.2.2.length (x.2.2.flatMap aG),be x.2.1 T.free,aY (x.2.2.map bV)])
theorem TreeA.close {B w:World}{D:PH}{t:Nat}{T:TM}{l:List HP}(h:TreeA B D w t T l):Sat B D w (uQ t T::l):=by
 obtain⟨nv,fv,ns,hns,hs⟩:=h;exact Sat.close_ex (nv,fv,ns) hns hs
theorem jP {B w:World}{D:PH}{t:Nat}{T:TM}{l:List HP}(h:Sat B D w (uQ t T::l)):TreeA B D w t T l:=by
 obtain⟨⟨nv,fv,ns⟩,hns,hs⟩:=Sat.open_ex h;exact⟨nv,fv,ns,hns,hs⟩
theorem gj {α:Type}{f f':α→HP}:∀(L:List α),(∀x∈L,∀h,f x h→f' x h)→∀h,Holds (L.map f) h→Holds (L.map f') h
 | [],_,_,_=>trivial
 | x::L,hf,_,⟨h1,h2,a,b,c,d,e⟩=>⟨h1,h2,a,b,c,hf x (Gc ..) _ d,gj L (fun y hy=>hf y (F4 _ hy)) _ e⟩
theorem kz {α β:Type}(f:α→β):∀(L:List α) (i:Nat),(L.eraseIdx i).map f=(L.map f).eraseIdx i
 | [],_=>by simp
 | x::L,0=>by simp
 | x::L,i+1=>by simp [kz f L i]
theorem vp {α:Type}{p p':α→Prop}{L:α→List HP}(hp:∀x,p x→p' x)(h:PH):exP p L h→exP p' L h:=fun ⟨x,h1,h2⟩=>⟨x,hp x h1,h2⟩
inductive RowsL (D:PH):PL→aq→Prop where
 | nil:RowsL D [] []
 | cons {k:Val} {v:VT} {r:List Val} {L:PL} {l:aq} (hk:k=au r) (hr:RowF D v.v r) (t:RowsL D L l):RowsL D ((k,v)::L) (r::l)
theorem RowsL.mono {D D':PH}(le:PH.le D D'){L:PL}{l:aq}(h:RowsL D L l):RowsL D' L l:=by
 induction h with
 | nil=>exact .nil
 | cons hk hr _ ih=>exact .cons hk (hr.mono le) ih
theorem RowsL.len {D:PH}{L:PL}{l:aq}(h:RowsL D L l):L.length=l.length:=by
 induction h with
 | nil=>rfl
 | cons _ _ _ ih=>rw [List.length_cons,List.length_cons,ih]
theorem RowsL.app {D:PH}{L L':PL}{l l':aq}(h:RowsL D L l)(h':RowsL D L' l'):RowsL D (L++L') (l++l'):=by
 induction h with
 | nil=>exact h'
 | cons hk hr _ ih=>exact .cons hk hr ih
theorem RowsL.filter {D:PH}(p:Val→Bool){L:PL}{l:aq}(h:RowsL D L l):RowsL D (L.filter (fun x=>p x.1)) (l.filter (fun r=>p (au r))):=by
 induction h with
 | nil=>exact .nil
 | @cons k v r L l hk hr _ ih =>
  rw [List.filter_cons,List.filter_cons];dsimp only;rw [hk];cases p (au r)
  ·simpa using ih
  ·simpa using RowsL.cons rfl hr ih
theorem RowsL.put {D:PH}{L:PL}{l:aq}(h:RowsL D L l){v:VT}{r:List Val}(hr:RowF D v.v r):RowsL D (dC L (au r) v) (cw l r) :=
 (h.filter (fun k=>decide (ai k (au r)<0))).app (.cons rfl hr (h.filter (fun k=>decide (0<ai k (au r)))))
theorem RowsL.del {D:PH}{L:PL}{l:aq}(h:RowsL D L l)(k:Val):RowsL D (cY L k) (cR l k):=h.filter (fun x=>!decide (ai x k=0))
theorem RowsL.span {D:PH}{L:PL}{l:aq}(h:RowsL D L l)(s:Spn):RowsL D (inS s L) (l.filter (fun r=>bI s (au r))):=h.filter (fun x=>bI s x)
theorem RowsL.get {D:PH}{L:PL}{l:aq}(h:RowsL D L l)(k:Val):(lP L k=none∧aP l k=none)∨∃v r,lP L k=some (k,v)∧aP l k=some r∧RowF D v.v r:=by
 unfold lP aP
 induction h with
 | nil=>exact .inl ⟨rfl,rfl⟩
 | @cons k' v r L l hk hr _ ih =>
  rw [List.find?_cons,List.find?_cons];dsimp only;rw [hk];by_cases hkk:au r=k
  ·rw [F5 hkk,←hkk]
   exact .inr ⟨v,r,rfl,rfl,hr⟩
  ·rw [FY hkk]
   exact ih
theorem RowsL.at {D:PH}{L:PL}{l:aq}(h:RowsL D L l):∀ {i:Nat} {p:Val×VT},L[i]?=some p→∃r,l[i]?=some r∧p.1=au r∧RowF D p.2.v r:=by
 induction h with
 | nil=>intro i p hp;simp at hp
 | @cons k v r L l hk hr _ ih =>
  intro i p hp;cases i with
  | zero=>simp at hp;subst hp;exact⟨r,rfl,hk,hr⟩
  | succ i=>exact ih (i:=i) (by simpa using hp)
structure TabR (D:PH)(T:TM)(L:PL)(l:aq):Prop where
 good:Good T L
 fit:T.nodes.length≤300
 len:l.length≤200
 rows:RowsL D L l
theorem TabR.small {D:PH}{T:TM}{L:PL}{l:aq}(h:TabR D T L l):Small T L 500:=by
 have h1:=h.good.shape;have h2:=h.fit;have h3:=h.len;have h4:=h.rows.len;refine⟨?_,Gq h2 (by decide),by omega⟩;rcases h1.depth with ⟨_,hd,_⟩|⟨_,_,d,hd,hp⟩
 ·omega
 ·have:=sV hp (by omega)
  omega
theorem TabR.next {D D':PH}{T T':TM}{L L':PL}{l l':aq}(h:TabR D T L l)(hn:Next T T' L L')(hr:RowsL D' L' l')(hl:l'.length≤200):TabR D' T' L' l':=by
 refine⟨hn.good,?_,hl,hr⟩;rcases hn.room with h1|h1
 ·rw [h1];exact h.fit
 ·have h2:=hn.good.shape
  have h3:=hr.len;have h4:=h2.used;rw [h1,List.length_nil]at h4;omega
def fK (D:PH)(t:Nat)(l:aq):HP:=exP (fun x:TM×PL=>TabR D x.1 x.2 l) (fun x=>[uQ t x.1])
theorem i4 {D D':PH}(le:PH.le D D'){t:Nat}{l:aq}(h:PH):fK D t l h→fK D' t l h:=vp (fun _ h=>⟨h.good,h.fit,h.len,h.rows.mono le⟩) h
def eq (D:PH)(p:Nat×aq):HP:=fK D p.1 p.2
def mq (t:Nat):Value:=.pointer (some ⟨t,0,none⟩)
structure OrH where
 tv:Value
 pv:Value
 ts:List Nat
def OrOk (D:PH)(O:OrM)(x:OrH):Prop:=TblsAt D x.tv O.cols∧RdP D 1 x.pv x.ts.length (x.ts.map mq)∧x.ts.length=O.tabs.length∧O.tabs.length=O.cols.length
def orL (D:PH)(o:Nat)(O:OrM)(x:OrH):List HP:=[blk o #[x.tv,x.pv] tOr,aY ((x.ts.zip O.tabs).map (eq D))]
def orP (D:PH)(o:Nat)(O:OrM):HP:=exP (OrOk D O) (orL D o O)
section
variable {B w w' : World} {D D' : PH} {o : Nat} {O : OrM} {x : OrH} {l : List HP} {i t : Nat} {m m' : aq}
theorem gB (h:Sat B D w (orP D' o O::l)):∃x,OrOk D' O x∧Sat B D w (orL D' o O x++l):=Sat.open_ex h
theorem rV {x:OrH}(hx:OrOk D' O x)(h:Sat B D w (orL D' o O x++l)):Sat B D w (orP D' o O::l):=Sat.close_ex x hx h
theorem j5 {D0:PH}(le:PH.le D D')(h:Sat B D0 w (orP D o O::l)):Sat B D0 w (orP D' o O::l):=by
 obtain⟨x,⟨h1,h2,h3,h4⟩,hs⟩:=gB h;refine rV ⟨h1.mono le,h2.mono le,h3,h4⟩ ?_;exact((Sat.swap hs).weaken (A':=aY ((x.ts.zip O.tabs).map (eq D'))) (fun h=>gj _ (fun _ _ _ h=>i4 le _ h) h)).swap
def vM (D:PH)(o:Nat)(O:OrM)(x:OrH)(i:Nat):List HP:=[blk o #[x.tv,x.pv] tOr,aY (((x.ts.zip O.tabs).eraseIdx i).map (eq D))]
theorem jW (hm:O.tabs[i]?=some m)(ht:x.ts[i]?=some t)(h:Sat B D w (orL D' o O x++l)):Sat B D w (fK D' t m::(vM D' o O x i++l)):=by
 have hz:(x.ts.zip O.tabs)[i]?=some (t,m):=by rw [List.getElem?_zip_eq_some];exact⟨ht,hm⟩
 have hz2:((x.ts.zip O.tabs).map (eq D'))[i]?=some (fK D' t m):=by rw [Gg,hz];rfl
 have h1:=(Sat.front h 1 rfl).ungroup;have h2:=h1.perm ((gh _ i _ hz2).append_right _);have h4:Sat B D w (fK D' t m::(((x.ts.zip O.tabs).map (eq D')).eraseIdx i++(orL D' o O x++l).eraseIdx 1)):=h2;have h5:=(h4.perm (List.perm_append_comm_assoc [fK D' t m] _ _)).togroup;rw [←kz]at h5;exact h5.perm (Ge (l₁:=[fK D' t m,blk o #[x.tv,x.pv] tOr]) (a:=aY (((x.ts.zip O.tabs).eraseIdx i).map (eq D'))) (l₂:=l)).symm
theorem mu (hx:OrOk D' O x)(hm:O.tabs[i]?=some m)(ht:x.ts[i]?=some t)(h:Sat B D w (fK D' t m'::(vM D' o O x i++l))):Sat B D w (orP D' o ⟨O.cols,O.tabs.set i m'⟩::l):=by
 have hz:(x.ts.zip O.tabs)[i]?=some (t,m):=by rw [List.getElem?_zip_eq_some];exact⟨ht,hm⟩
 have hset:x.ts.zip (O.tabs.set i m')=(x.ts.zip O.tabs).set i (t,m'):=by
  refine List.ext_getElem? fun j=>?_;by_cases hj:i=j
  ·subst hj
   have hlt:=(FO.1 hz).1;have hlt2:=(FO.1 hm).1;rw [FX hlt,List.getElem?_zip_eq_some];exact⟨ht,FX hlt2⟩
  ·rw [F8 hj,List.zip_eq_zipWith,List.zip_eq_zipWith,List.getElem?_zipWith,List.getElem?_zipWith,F8 hj]
 refine rV (O:=⟨O.cols,O.tabs.set i m'⟩) (x:=x) ⟨hx.1,hx.2.1,by simpa using hx.2.2.1,by simpa using hx.2.2.2⟩ ?_;have h1:Sat B D w (aY (((x.ts.zip O.tabs).eraseIdx i).map (eq D'))::fK D' t m'::blk o #[x.tv,x.pv] tOr::l) :=
  h.perm (Ge (l₁:=[fK D' t m',blk o #[x.tv,x.pv] tOr]) (a:=aY (((x.ts.zip O.tabs).eraseIdx i).map (eq D'))) (l₂:=l))
 have h3:=h1.ungroup.perm (Ge (l₁:=((x.ts.zip O.tabs).eraseIdx i).map (eq D')) (a:=fK D' t m'));rw [kz]at h3;have hz2:((x.ts.zip O.tabs).map (eq D'))[i]?=some (fK D' t m):=by rw [Gg,hz];rfl
 have h4:=h3.perm (((iJ (fK D' t m') _ i _ hz2).symm.append_right (blk o #[x.tv,x.pv] tOr::l)));have e:((x.ts.zip O.tabs).map (eq D')).set i (fK D' t m')=(x.ts.zip (O.tabs.set i m')).map (eq D'):=by rw [hset,List.map_set];rfl
 rw [e]at h4;exact h4.togroup.perm (Ge (l₁:=[blk o #[x.tv,x.pv] tOr]) (a:=aY ((x.ts.zip (O.tabs.set i m')).map (eq D'))) (l₂:=l)).symm
theorem iG (hx:OrOk D' O x)(hm:O.tabs[i]?=some m)(hs:Sat B D' w l):∃t g og pc,x.ts[i]?=some t∧x.pv = .slice (some ⟨g,og,none⟩) O.tabs.length pc∧w.cell? ⟨g,og+i,none⟩=some (.pointer (some ⟨t,0,none⟩)):=by
 obtain⟨_,h2,h3,h4⟩:=hx;have hlt:=(FO.1 hm).1;obtain⟨t,ht⟩:∃t,x.ts[i]?=some t:=⟨x.ts[i]'(by omega),FP _⟩;obtain⟨po,pc,hpv⟩:=h2.shape;have hp:=(h2.rd hs).2.2;rcases hp with ⟨ao2,cap2,hq,_,_,_,hcell⟩
 rcases hcell with h0|⟨g,og,hg,hcc⟩
 ·omega
 ·rw [hpv]at hq
  cases hq;subst hg;exact⟨t,g,og,pc,ht,by rw [hpv,h3],hcc i _ (by rw [Gg,ht];rfl)⟩
end
section
variable {B w w' : World} {D : PH} {o : Nat} {O : OrM} {x : OrH} {l : List HP} {i t : Nat} {m m' : aq}
theorem rQ (k:Val)(hm:O.tabs[i]?=some m)(ht:x.ts[i]?=some t)(h:Sat B D w (orL D o O x++l)) :
  Calls Tryz.prog 93 #[.pointer (some ⟨t,0,none⟩),k.v] w fun e w'=>∃v,e = .returned (.tuple #[v,.bool (aP m k).isSome])∧RowF D v ((aP m k).getD [])∧Kept (fun _=>False) w w':=by
 obtain⟨⟨T,L⟩,hT,hsT⟩:=Sat.open_ex (jW hm ht h);refine(Get_ok k hT.good (jP hsT)).mono ?_;rintro e w' ⟨rfl,hk⟩;rcases hT.rows.get k with ⟨h1,h2⟩|⟨v,r,h1,h2,h3⟩
 ·refine⟨.slice none 0 0,?_,?_,hk⟩
  ·unfold rX qY;rw [h1,h2];rfl
  ·rw [h2];exact⟨RdP.nil _ _,fun a ha=>by cases ha⟩
 ·refine⟨v.v,?_,?_,hk⟩
  ·unfold rX qY;rw [h1,h2];rfl
  ·rw [h2];exact h3
theorem ww (v:VT)(r:List Val)(hx:OrOk D O x)(hm:O.tabs[i]?=some m)(ht:x.ts[i]?=some t)(hr:RowF D v.v r)(hk:am (au r)=true)(hl:(cw m r).length≤200)(h:Sat B D w (orL D o O x++l)) :
  Calls Tryz.prog 92 #[.pointer (some ⟨t,0,none⟩),(au r).v,v.v] w fun e w'=>∃b,e = .returned (.bool b)∧Sat B D w' (orP D o ⟨O.cols,O.tabs.set i (cw m r)⟩::l):=by
 obtain⟨⟨T,L⟩,hT,hsT⟩:=Sat.open_ex (jW hm ht h);refine(Put_ok (au r) v hT.good hT.small (Gn _) (jP hsT)).mono ?_;rintro e w' ⟨T',rfl,ha,hn⟩;have hput:uy L (au r) v=dC L (au r) v:=by unfold uy;rw [hk,if_pos rfl]
 rw [hput]at hn;have hT':=hT.next hn (hT.rows.put hr) hl;exact⟨_,rfl,mu hx hm ht (Sat.close_ex (T',dC L (au r) v) hT' ha.close)⟩
theorem uB (k:Val)(hx:OrOk D O x)(hm:O.tabs[i]?=some m)(ht:x.ts[i]?=some t)(hk:am k=true)(h:Sat B D w (orL D o O x++l)) :
  Calls Tryz.prog 91 #[.pointer (some ⟨t,0,none⟩),k.v] w fun e w'=>∃b,e = .returned (.bool b)∧Sat B D w' (orP D o ⟨O.cols,O.tabs.set i (cR m k)⟩::l):=by
 obtain⟨⟨T,L⟩,hT,hsT⟩:=Sat.open_ex (jW hm ht h);refine(tM k hT.good hT.small (Gn _) (jP hsT)).mono ?_;rintro e w' ⟨T',rfl,ha,hn⟩;have hrem:pt L k=cY L k:=by unfold pt;rw [hk,if_pos rfl]
 rw [hrem]at hn;have hT':=hT.next hn (hT.rows.del k) (Gq (List.length_filter_le ..) hT.len);exact⟨_,rfl,mu hx hm ht (Sat.close_ex (T',cY L k) hT' ha.close)⟩
end
abbrev tTx : TypeId:=97
abbrev dx : TypeId:=147
structure BefE where
 table:Int
 key:Val
 r:VT
def BefE.cells (b:BefE):List Value:=[.int .i64 b.table,.bool b.key.t,.int .i64 b.key.n,.string b.key.s,b.r.v]
theorem BefE.len (b:BefE):b.cells.length=5:=rfl
theorem BefE.one (b:BefE):∀u∈b.cells,u.oneCell'=true:=by intro u hu;simp [BefE.cells]at hu;rcases hu with rfl|rfl|rfl|rfl|rfl<;>rfl
structure CurE where
 opn:Bool
 change:Bool
 stands:Bool
 table:Int
 pe:PredE
 frm:Spn
 key:Val
def CurE.cells (c:CurE):List Value:=[.bool c.opn,.bool c.change,.bool c.stands,.int .i64 c.table]++c.pe.cells++c.frm.cells.toList++c.key.cells
theorem CurE.len (c:CurE):c.cells.length=27:=rfl
def BefOk (D:PH)(b:BefE)(m:BefM):Prop:=b.table=m.table∧b.key=m.key∧RowF D b.r.v m.r
def qA (D:PH)(c:CurE)(m:CurM):Prop:=c.opn=m.opn∧c.change=m.change∧c.stands=m.stands∧c.table=m.table∧c.pe.p=m.p∧c.frm=m.frm∧c.key=m.key∧PredsAt D (.slice c.pe.la c.pe.ln c.pe.lc) c.pe.subs
inductive All2 {α β:Type}(R:α→β→Prop):List α→List β→Prop where
 | nil:All2 R [] []
 | cons {a:α} {b:β} {l:List α} {m:List β} (h:R a b) (t:All2 R l m):All2 R (a::l) (b::m)
theorem All2.imp {α β:Type}{R R':α→β→Prop}(hi:∀a b,R a b→R' a b){l:List α}{m:List β}(h:All2 R l m):All2 R' l m:=by
 induction h with
 | nil=>exact .nil
 | cons h _ ih=>exact .cons (hi _ _ h) ih
theorem All2.len {α β:Type}{R:α→β→Prop}{l:List α}{m:List β}(h:All2 R l m):l.length=m.length:=by
 induction h with
 | nil=>rfl
 | cons _ _ ih=>rw [List.length_cons,List.length_cons,ih]
theorem All2.snoc {α β:Type}{R:α→β→Prop}{l:List α}{m:List β}{a:α}{b:β}(h:All2 R l m)(hab:R a b):All2 R (l ++ [a]) (m ++ [b]):=by
 induction h with
 | nil=>exact .cons hab .nil
 | cons h _ ih=>exact .cons h ih
theorem All2.take {α β:Type}{R:α→β→Prop}{l:List α}{m:List β}(h:All2 R l m):∀n,All2 R (l.take n) (m.take n):=by
 induction h with
 | nil=>intro n;simp;exact .nil
 | cons h _ ih =>
  intro n;cases n with
  | zero=>exact .nil
  | succ n=>exact .cons h (ih n)
theorem All2.get {α β:Type}{R:α→β→Prop}{l:List α}{m:List β}(h:All2 R l m):∀ {i:Nat} {a:α},l[i]?=some a→∃b,m[i]?=some b∧R a b:=by
 induction h with
 | nil=>intro i a h;simp at h
 | cons h _ ih =>
  intro i a hi;cases i with
  | zero=>simp at hi;subst hi;exact⟨_,rfl,h⟩
  | succ i=>exact ih (by simpa using hi)
theorem All2.set {α β:Type}{R:α→β→Prop}{l:List α}{m:List β}{a:α}{b:β}(h:All2 R l m)(hab:R a b):∀i,All2 R (l.set i a) (m.set i b):=by
 induction h with
 | nil=>intro i;exact .nil
 | cons h t ih =>
  intro i;cases i with
  | zero=>exact .cons hab t
  | succ i=>exact .cons h (ih i)
structure TxH where
 lv:Value
 es:List BefE
 cs:List CurE
def aN (o:Nat)(lv:Value)(sv:List Int)(cs:List CurE):Array Value:=(.pointer (some ⟨o,0,none⟩)::lv::(sv.map (Value.int .i64)++cs.flatMap CurE.cells)).toArray
structure TxOk (D:PH)(X:TxM)(H:TxH):Prop where
 log:All2 (BefOk D) H.es X.log
 curs:All2 (qA D) H.cs X.curs
 saves:X.saves.length=4
 three:X.curs.length=3
 small:X.log.length≤10000
def txL (D:PH)(x o:Nat)(X:TxM)(H:TxH):List HP:=[blk x (aN o H.lv X.saves H.cs) tTx,aD dx 5 H.lv H.es.length (H.es.flatMap BefE.cells),orP D o ⟨X.cols,X.tabs⟩]
def TxIn (B w:World)(D:PH)(x o:Nat)(X:TxM)(l:List HP):Prop:=∃H,TxOk D X H∧Sat B D w (txL D x o X H++l)
theorem TxOk.mono {D D':PH}(le:PH.le D D'){X:TxM}{H:TxH}(h:TxOk D X H):TxOk D' X H :=
 ⟨h.log.imp (fun _ _ ⟨a,b,c⟩=>⟨a,b,c.mono le⟩),h.curs.imp (fun _ _ ⟨a,b,c,d,e,f,g,i⟩=>⟨a,b,c,d,e,f,g,i.mono le⟩),h.saves,h.three,h.small⟩
section
variable {B w : World} {D D' : PH} {x o : Nat} {X : TxM} {H : TxH} {l : List HP}
theorem dj (h:Sat B D' w (txL D x o X H++l)):w.cell? ⟨x,0,none⟩=some (.pointer (some ⟨o,0,none⟩))∧w.cell? ⟨x,1,none⟩=some H.lv∧∀j,w.frozen? ⟨x,j,none⟩=false:=by
 have hb:=h.blk 0 rfl;refine⟨?_,?_,fun j=>by simp [World.frozen?,hb]⟩<;>simp [World.cell?,hb,aN]
theorem iL (o:Nat)(lv lv':Value)(sv:List Int)(cs:List CurE):(aN o lv sv cs).setIfInBounds 1 lv'=aN o lv' sv cs:=by simp [aN]
theorem jd (h:Sat B D' w (txL D x o X H++l)):Sat B D' w (orP D o ⟨X.cols,X.tabs⟩::(blk x (aN o H.lv X.saves H.cs) tTx::aD dx 5 H.lv H.es.length (H.es.flatMap BefE.cells)::l)):=h.front 2 rfl
theorem gA (h:Sat B D' w (orP D o ⟨X.cols,X.tabs⟩::(blk x (aN o H.lv X.saves H.cs) tTx::aD dx 5 H.lv H.es.length (H.es.flatMap BefE.cells)::l))):Sat B D' w (txL D x o X H++l) :=
 h.perm (Ge (l₁:=[blk x (aN o H.lv X.saves H.cs) tTx,aD dx 5 H.lv H.es.length (H.es.flatMap BefE.cells)]) (a:=orP D o ⟨X.cols,X.tabs⟩) (l₂:=l)).symm
theorem dJ {y:OrH}{O:OrM}(h:Sat B D' w (orL D o O y++l)):w.cell? ⟨o,0,none⟩=some y.tv∧w.cell? ⟨o,1,none⟩=some y.pv:=by
 obtain⟨a,b,_⟩:=dA (h.blk 0 rfl);exact⟨a,b⟩
end
abbrev tBefs : TypeId:=89
theorem sj : (Tryz.prog.info? dx).map (fun i=>(i.zero,i.size,i.bytes))=some (some (.agg #[.int .i64 0,.bool false,.int .i64 0,.string ⟨#[]⟩,.slice none 0 0]),5,64):=by kernel_rfl
theorem gC {X:TxM}{i:Nat}{m:aq}(h:X.tabs[i]?=some m):X.tab (i:Int)=m:=by
 unfold TxM.tab;rw [F6,FW,h];rfl
theorem uP {B w:World}{D D' D0:PH}{o:Nat}{O:OrM}{y:OrH}{l:List HP}(le:PH.le D D')(h:Sat B D0 w (orL D o O y++l)):Sat B D0 w (orL D' o O y++l) :=
 ((Sat.swap h).weaken (A':=aY ((y.ts.zip O.tabs).map (eq D'))) (fun h=>gj _ (fun _ _ _ h=>i4 le _ h) h)).swap
theorem OrOk.mono {D D':PH}{O:OrM}{y:OrH}(le:PH.le D D')(h:OrOk D O y):OrOk D' O y:=⟨h.1.mono le,h.2.1.mono le,h.2.2⟩
theorem pP {B w:World}{D:PH}{x o i:Nat}{X:TxM}{l:List HP}{m:aq}{rv:Value}{r:List Val}{k:Val}(hm:X.tabs[i]?=some m)(hr:RowF D rv r)(h0:r[0]?=some k)(hk:am k=true)(hl:(cw m r).length≤200)(hb:X.log.length+1≤10000)(hrl:r.length≤1000000)(h:TxIn B w D x o X l) :
  Calls Tryz.prog 94 #[.pointer (some ⟨x,0,none⟩),.int .i64 i,rv] w fun e w'=>e = .returned (.tuple #[])∧∃D',PH.le D D'∧TxIn B w' D' x o (X.put i r) l:=by
 obtain⟨i0,hi,hz0,hz1,hz2⟩:=info_parts sj;have HI:=FH (And.intro hi (And.intro hz0 (And.intro hz1 hz2)));clear hi hz0 hz1 hz2;have hkr:au r=k:=by unfold au;rw [←List.head?_eq_getElem?]at h0;cases r with|nil=>cases h0|cons a t=>simp at h0;subst h0;rfl
 obtain⟨H,hH,hs⟩:=h;have HH:=FH hH;obtain⟨c0,c1,cf⟩:=dj hs;obtain⟨y,hy,hs2⟩:=gB (jd hs);have HY:=FH hy;obtain⟨d0,d1⟩:=dJ hs2;obtain⟨t,g,og,pc,ht,hpv,hpc⟩:=iG hy hm hs2;rw [hpv]at d1;have hlt:(i:Int)<(X.tabs.length:Int):=by have:=(FO.1 hm).1;omega
 have HG:=FH (rQ k hm ht hs2.drew);have wJ:=FH hs2;have xD:=FH (RdP.rd hr.1 hs2);obtain⟨ao,rc,rfl⟩:∃ao rc,rv = .slice ao r.length rc:=by obtain⟨_,_,ao,rc,h,_⟩:=hr.1;exact⟨ao,rc,h⟩
 obtain⟨rg,rog,rfl⟩:=cT xD.out h0 rfl;obtain⟨y0,y1,y2⟩:=aE (h:=0) xD.out h0;have hlen2:0<r.length:=(FO.1 h0).1;have hlen:(0:Int)<(r.length:Int):=by omega
 rw [Nat.zero_mul,Nat.add_zero]at y0 y1 y2;have HM:=FH hm;have HR:=FH hr;have HT:=FH ht;have E6:=FH hpv;have HB:=FH hb;have HL:=FH hl;have HK:=FH hk;have zu:=FH hkr;have H0:=FH h0;generalize hRN:r.length=RN at *;have AB:=FH hRN;generalize hTN:X.tabs.length=TN at *;have yU:=FH hTN;have Bj:=FH hrl;clear hm hr ht hpv hb hl hk hkr h0 hH hs hs2 hy hRN hTN hrl;go_enter Tryz.func94,Tryz.ntmps94;go_upto_region 0 with fail
 refine aH [rq 0 13,rq 1 13,rq 2 13,rq 3 13,rq 4 13,rq 5 13,rq 6 13,rq 7 13,rq 8 13,rq 9 13,rq 10 13,rq 11 13,rq 12 13,(13,true,0),rq 14 999,rq 15 999,rq 16 999,rq 17 999,rq 18 999] ?_;iterate 13 (refine ae rfl rfl fun K hK=>?_;go_simp;apply hK;clear hK K)
 refine af rfl ?_;refine al rfl fun K hK=>?_;go_simp;refine(HG.out.mono ?_);rintro e1 w1 ⟨v,rfl,hwas,hk1⟩;obtain⟨ra,rn,rcc,rfl⟩:∃a n c,v = .slice a n c:=by obtain⟨_,_,ao,rc,h,_⟩:=hwas.1;exact⟨ao,_,rc,h⟩
 have B3:=FH hwas;have wI:=FH (wJ.out.drew.kept hk1);clear hwas hk1 wJ HG c0 c1 cf d0 d1 y0 y1 y2;refine hK _ _ ?_;clear hK K;refine wpList_nil ?_;apply And.intro
 ·go_simp
 iterate 5 (refine ae rfl rfl fun K hK=>?_;go_simp;apply hK;clear hK K)
 refine ag ?_;obtain⟨la,lc,hlv⟩:=(wI.out.front 3 rfl).own_shape;have yW:=FH hlv;obtain⟨N,hN⟩:∃N,H.es.length=N:=⟨_,rfl⟩;have HN:=FH hN;have hNb:N+1≤10000:=by have h1:=HH.out.log.len;have h2:=HB.out;omega
 have wO:=FH (show Sat B D w1 (orL D o ⟨X.cols,X.tabs⟩ y++(blk x (aN o (.slice la N lc) X.saves H.cs) tTx::aD dx 5 (.slice la N lc) N (H.es.flatMap BefE.cells)::l)) by rw [←hN,←hlv];exact wI.out);obtain⟨en,hen⟩:∃en:BefE,en=⟨(i:Int),k,⟨ra,rn,rcc⟩⟩:=⟨_,rfl⟩;have Bk:=FH (show #[Value.int .i64 (i:Int),.bool k.t,.int .i64 k.n,.string k.s,.slice ra rn rcc]=en.cells.toArray by rw [hen];rfl);have DR:=FH hen;have xP:=FH (wO.out.blk 2 rfl);have c1:w1.cell? ⟨x,1,none⟩=some (.slice la N lc):=by simp [World.cell?,xP.out,aN]
 have CR:=FH (RdP.rd HR.out.1 wO.out);obtain⟨y0,y1,y2⟩:=aE (h:=0) (show Rd w1 3 (.slice (some ⟨rg,rog,none⟩) RN rc) RN (r.flatMap Val.cells)from AB.out▸CR.out) H0.out;rw [Nat.zero_mul,Nat.add_zero]at y0 y1 y2;clear hlv hN wI hpc hen xP;go_upto_region 1 with fail
 refine aH [rq 0 15,rq 1 12,rq 2 12,rq 3 12,rq 4 12,rq 5 11,rq 6 11,rq 7 11,rq 8 11,rq 9 11,rq 10 11,(11,true,0),(12,true,0),rq 13 15,rq 14 15,(15,true,0)] ?_;iterate 11 (refine ae rfl rfl fun K hK=>?_;go_simp;apply hK;clear hK K)
 refine af rfl ?_;rw [Bk.out];refine dL rfl _ _ rfl dx i0 _ en.cells rfl Tryz.underlying89 HI.out.1 HI.out.2.1 (HI.out.2.2.1.trans rfl) (by rw [BefE.len];decide) (by rw [BefE.len];decide) ?_;refine wpList_nil ?_;obtain⟨W4,hW4,hs4⟩:=Sat.hide (wO.out.drew.alloc en.cells.toArray dx);rw [←hW4];clear hW4 wO c1 y0 y1 y2 CR;generalize w1.drew.heap.size=bz at hs4 ⊢;have wQ:=FH (bC (size:=5) (n:=1) (hs4.blk 0 rfl) (by simp [BefE.len]) (by unfold maxLen;omega));have CT:=FH (RdP.rd HR.out.1 hs4);have xP:=FH (hs4.blk 3 rfl);have c1:W4.cell? ⟨x,1,none⟩=some (.slice la N lc):=by simp [World.cell?,xP.out,aN]
 obtain⟨y0,y1,y2⟩:=aE (h:=0) (show Rd W4 3 (.slice (some ⟨rg,rog,none⟩) RN rc) RN (r.flatMap Val.cells)from AB.out▸CT.out) H0.out;rw [Nat.zero_mul,Nat.add_zero]at y0 y1 y2;have wT:=FH (show Sat B D W4 (aD dx 5 (.slice la N lc) N (H.es.flatMap BefE.cells)::blk bz en.cells.toArray dx::(orL D o ⟨X.cols,X.tabs⟩ y++(blk x (aN o (.slice la N lc) X.saves H.cs) tTx::l)))from hs4.front 4 rfl);clear hs4 xP CT;apply And.intro
 ·go_simp;first|done|exact Bk.out
 refine af rfl ?_;refine az _ rfl _ _ tBefs rfl dx i0 _ 5 64 Tryz.underlying89 HI.out.1 HI.out.2.1 HI.out.2.2.1 HI.out.2.2.2 rfl _ N _ rfl wT.out _ 1 _ rfl wQ.out (by simpa using BefE.one en) (by unfold maxLen;omega) (by omega) ?_;intro v7 w7 hs7 h17;refine wpList_nil ?_;clear c1 y0 y1 y2 wT wQ;obtain⟨va,vc,rfl⟩:∃va vc,v7 = .slice va (N+1) vc:=hs7.own_shape;have wK:=FH (show Sat B D w7 (blk x (aN o (.slice la N lc) X.saves H.cs) tTx::aD dx 5 (.slice va (N+1) vc) (N+1) (H.es.flatMap BefE.cells++en.cells.toArray.toList)::blk bz en.cells.toArray dx::(orL D o ⟨X.cols,X.tabs⟩ y++l))from hs7.front 4 rfl);have xP:=FH (wK.out.blk 0 rfl);have c1:w7.cell? ⟨x,1,none⟩=some (.slice la N lc):=by simp [World.cell?,xP.out,aN]
 have cf:∀j,w7.frozen? ⟨x,j,none⟩=false:=fun j=>by simp [World.frozen?,xP.out]
 have wP:=FH (show Sat B D (w7.setCell ⟨x,1,none⟩ (.slice va (N+1) vc)) (blk x (aN o (.slice va (N+1) vc) X.saves H.cs) tTx::aD dx 5 (.slice va (N+1) vc) (N+1) (H.es.flatMap BefE.cells++en.cells.toArray.toList)::blk bz en.cells.toArray dx::(orL D o ⟨X.cols,X.tabs⟩ y++l))from iL o (.slice la N lc) (.slice va (N+1) vc) X.saves H.cs▸Sat.set wK.out 1 (.slice va (N+1) vc));clear hs7 h17 xP wK;apply And.intro
 ·go_simp
 iterate 2 (refine ae rfl rfl fun K hK=>?_;go_simp;apply hK;clear hK K)
 refine af rfl ?_;refine wpList_plain rfl fun K hK=>?_;go_simp;refine hK _ _ ?_;clear hK K;refine wpList_nil ?_;apply And.intro
 ·go_simp
 refine ag ?_;obtain⟨W8,hW8⟩:∃W,W=w7.setCell ⟨x,1,none⟩ (.slice va (N+1) vc):=⟨_,rfl⟩;rw [←hW8]at wP ⊢;clear hW8 c1 cf;have wW:=FH (show Sat B D W8 (orL D o ⟨X.cols,X.tabs⟩ y++(blk x (aN o (.slice va (N+1) vc) X.saves H.cs) tTx::aD dx 5 (.slice va (N+1) vc) (N+1) (H.es.flatMap BefE.cells++en.cells.toArray.toList)::l))from((wP.out.front 2 rfl).drop.front 2 rfl).front 3 rfl |>.front 1 rfl);clear wP;obtain⟨t2,g2,og2,pc2,ht2,hpv2,hpc2⟩:=iG HY.out HM.out wW.out;obtain⟨d0,d1⟩:=dJ wW.out;rw [hpv2]at d1;have DS:=FH hpv2;have E7:=FH hpc2;have xn:=FH ht2;have xP:=FH (wW.out.blk 2 rfl);have c0:W8.cell? ⟨x,0,none⟩=some (.pointer (some ⟨o,0,none⟩)):=by simp [World.cell?,xP.out,aN]
 rw [show List.length (OrM.tabs ⟨X.cols,X.tabs⟩)=TN from yU.out]at d1;have CU:=FH (RdP.rd HR.out.1 wW.out);obtain⟨y0,y1,y2⟩:=aE (h:=0) (show Rd W8 3 (.slice (some ⟨rg,rog,none⟩) RN rc) RN (r.flatMap Val.cells)from AB.out▸CU.out) H0.out;rw [Nat.zero_mul,Nat.add_zero]at y0 y1 y2;have yy:=FH (iU (RdP.rd HR.out.1 wW.out.drew) (AB.out.symm▸Bj.out) wW.out.drew);clear ht2 hpv2 xP wW CU;go_upto_region 2 with fail
 refine aH [rq 0 15,rq 1 15,rq 2 15,rq 3 15,rq 4 15,rq 5 15,rq 6 15,rq 7 15,rq 8 15,rq 9 15,rq 10 15,rq 11 15,rq 12 15,rq 13 14,(14,true,0),(15,true,0)] ?_;iterate 14 (refine ae rfl rfl fun K hK=>?_;go_simp;apply hK;clear hK K)
 refine af rfl ?_;refine al rfl fun K hK=>?_;go_simp;refine yy.out.mono ?_;rintro e9 w9 ⟨v9,rfl,hs9⟩;obtain⟨D9,hle,hrd9,hs9⟩:=hs9.own_give;have wU:=FH hle;have E8:=FH (show RowF D9 v9 r from⟨hrd9,HR.out.2⟩);have yi:=FH (uP hle hs9);have EB:=FH (HY.out.mono hle);obtain⟨a9,n9,b9,rfl⟩:∃a n c,v9 = .slice a n c:=by obtain⟨_,_,ao,rc,h,_⟩:=hrd9;exact⟨ao,_,rc,h⟩
 clear yy c0 d0 d1 y0 y1 y2 hpc2 hle hrd9 hs9;obtain⟨t3,g3,og3,pc3,ht3,hpv3,hpc3⟩:=iG EB.out HM.out yi.out;obtain rfl:t3=t2:=Option.some.inj (ht3.symm.trans xn.out);have hpe:=hpv3.symm.trans DS.out;cases hpe;obtain⟨d0,d1⟩:=dJ yi.out;rw [hpv3]at d1;rw [show List.length (OrM.tabs ⟨X.cols,X.tabs⟩)=TN from yU.out]at d1;have xP:=FH (yi.out.blk 2 rfl);have c0:w9.cell? ⟨x,0,none⟩=some (.pointer (some ⟨o,0,none⟩)):=by simp [World.cell?,xP.out,aN]
 have CV:=FH (RdP.rd (HR.out.mono wU.out).1 yi.out);obtain⟨y0,y1,y2⟩:=aE (h:=0) (show Rd w9 3 (.slice (some ⟨rg,rog,none⟩) RN rc) RN (r.flatMap Val.cells)from AB.out▸CV.out) H0.out;rw [Nat.zero_mul,Nat.add_zero]at y0 y1 y2;have Aq:=FH (ww ⟨a9,n9,b9⟩ r EB.out HM.out ht3 E8.out (zu.out.symm▸HK.out) HL.out yi.out);rw [zu.out]at Aq;clear ht3 hpv3 xP CV;refine hK _ _ ?_;clear hK K;refine wpList_nil ?_;apply And.intro
 ·go_simp
 refine af rfl ?_;refine al rfl fun K hK=>?_;go_simp;refine Aq.out.mono ?_;rintro eA wA ⟨bA,rfl,hsA⟩;have xa:=FH hsA;clear hsA Aq yi c0 d0 d1 y0 y1 y2 hpc3;refine hK _ _ ?_;clear hK K;refine wpList_nil ?_;apply And.intro
 ·go_simp
 refine ag ?_;go_wp2_with fail;go_end0;have hX:X.put (i:Int) r=⟨X.cols,X.tabs.set i (cw m r),X.log ++ [⟨(i:Int),k,(aP m k).getD []⟩],X.saves,X.curs⟩:=by
  unfold TxM.put;rw [gC HM.out,zu.out]
  rfl
 rw [hX];have hok:=HH.out.mono wU.out;refine⟨rfl,D9,wU.out,⟨.slice va (N+1) vc,H.es ++ [en],H.cs⟩,⟨?_,hok.curs,hok.saves,hok.three,?_⟩,?_⟩
 ·refine hok.log.snoc ?_
  rw [DR.out];exact⟨rfl,rfl,B3.out.mono wU.out⟩
 ·rw [FR];exact HB.out
 ·refine gA (X:=⟨X.cols,X.tabs.set i (cw m r),X.log ++ [⟨(i:Int),k,(aP m k).getD []⟩],X.saves,X.curs⟩) (H:=⟨.slice va (N+1) vc,H.es ++ [en],H.cs⟩) ?_
  show Sat B D9 wA (_::_::aD dx 5 _ (H.es ++ [en]).length ((H.es ++ [en]).flatMap BefE.cells)::l);rw [FR,HN.out,FT,List.flatMap_singleton];exact xa.out
theorem qQ {B w:World}{D:PH}{x o i:Nat}{X:TxM}{l:List HP}{m:aq}{k:Val}(hm:X.tabs[i]?=some m)(hk:am k=true)(hb:X.log.length+1≤10000)(h:TxIn B w D x o X l) :
  Calls Tryz.prog 98 #[.pointer (some ⟨x,0,none⟩),.int .i64 i,k.v] w fun e w'=>e = .returned (.tuple #[])∧TxIn B w' D x o (X.out i k) l:=by
 obtain⟨i0,hi,hz0,hz1,hz2⟩:=info_parts sj;have HI:=FH (And.intro hi (And.intro hz0 (And.intro hz1 hz2)));clear hi hz0 hz1 hz2;obtain⟨H,hH,hs⟩:=h;have HH:=FH hH;obtain⟨y,hy,hs1⟩:=gB (jd hs);have HY:=FH hy;obtain⟨W0,hW0,hs2⟩:=Sat.hide (hs1.alloc k.cells.toArray tV);have xh:=FH (show W0=w.alloc (.cells #[.bool k.t,.int .i64 k.n,.string k.s] tV)from hW0);have hs2:Sat B D W0 (orL D o ⟨X.cols,X.tabs⟩ y++(blk w.heap.size k.cells.toArray tV::blk x (aN o H.lv X.saves H.cs) tTx::aD dx 5 H.lv H.es.length (H.es.flatMap BefE.cells)::l)):=((hs2.front 1 rfl).front 2 rfl).front 1 rfl;obtain⟨d0,d1⟩:=dJ hs2;obtain⟨t,g,og,pc,ht,hpv,hpc⟩:=iG hy hm hs2;rw [hpv]at d1;have hlt:(i:Int)<(X.tabs.length:Int):=by have:=(FO.1 hm).1;omega
 have DT:=FH (show W0.heap[w.heap.size]?=some (.cells #[.bool k.t,.int .i64 k.n,.string k.s] tV (0,0))from hs2.blk 2 rfl);have CW:=FH (hs2.blk 3 rfl);have HG:=FH (rQ k hm ht hs2.drew);have wJ:=FH hs2;have HM:=FH hm;have HT:=FH ht;have E6:=FH hpv;have HB:=FH hb;have HK:=FH hk;have zh:=FH hpc;have D1:=FH d1;generalize hTN:X.tabs.length=TN at *;have yU:=FH hTN;clear hm ht hpv hb hk hH hs hs1 hs2 hy hTN hW0 hpc d1 d0;go_enter Tryz.func98,Tryz.ntmps98;go_upto_region 1 with fail
 rw [←xh.out];clear xh;generalize w.heap.size=bk at DT wJ ⊢;obtain⟨x0,x1,x2,xf⟩:=aQ DT.out;have c0:W0.cell? ⟨x,0,none⟩=some (.pointer (some ⟨o,0,none⟩)):=by simp [World.cell?,CW.out,aN]
 have hpc:=zh.out;have d1:=D1.out;refine aH [rq 0 11,rq 1 11,rq 2 11,rq 3 11,rq 4 11,rq 5 11,rq 6 11,rq 7 11,rq 8 11,rq 9 11,rq 10 11,(11,true,0),rq 12 999,rq 13 999,rq 14 999,rq 15 999,rq 16 999] ?_;iterate 11 (refine ae rfl rfl fun K hK=>?_;go_simp;apply hK;clear hK K)
 refine af rfl ?_;refine al rfl fun K hK=>?_;go_simp;refine(HG.out.mono ?_);rintro e1 w1 ⟨v,rfl,hwas,hk1⟩;obtain⟨ra,rn,rcc,rfl⟩:∃a n c,v = .slice a n c:=by obtain⟨_,_,ao,rc,h,_⟩:=hwas.1;exact⟨ao,_,rc,h⟩
 have B3:=FH hwas;have wI:=FH (wJ.out.drew.kept hk1);clear hwas hk1 wJ HG c0 d1 x0 x1 x2 xf hpc DT CW;refine hK _ _ ?_;clear hK K;refine wpList_nil ?_;apply And.intro
 ·go_simp
 iterate 5 (refine ae rfl rfl fun K hK=>?_;go_simp;apply hK;clear hK K)
 refine ag ?_;obtain⟨la,lc,hlv⟩:=(wI.out.front 4 rfl).own_shape;have yW:=FH hlv;obtain⟨N,hN⟩:∃N,H.es.length=N:=⟨_,rfl⟩;have HN:=FH hN;have hNb:N+1≤10000:=by have h1:=HH.out.log.len;have h2:=HB.out;omega
 have wO:=FH (show Sat B D w1 (orL D o ⟨X.cols,X.tabs⟩ y++(blk bk k.cells.toArray tV::blk x (aN o (.slice la N lc) X.saves H.cs) tTx::aD dx 5 (.slice la N lc) N (H.es.flatMap BefE.cells)::l)) by rw [←hN,←hlv];exact wI.out);obtain⟨en,hen⟩:∃en:BefE,en=⟨(i:Int),k,⟨ra,rn,rcc⟩⟩:=⟨_,rfl⟩;have Bk:=FH (show #[Value.int .i64 (i:Int),.bool k.t,.int .i64 k.n,.string k.s,.slice ra rn rcc]=en.cells.toArray by rw [hen];rfl);have DR:=FH hen;have xP:=FH (wO.out.blk 3 rfl);have c1:w1.cell? ⟨x,1,none⟩=some (.slice la N lc):=by simp [World.cell?,xP.out,aN]
 obtain⟨x0,x1,x2,xf⟩:=aQ (show w1.heap[bk]?=some (.cells #[.bool k.t,.int .i64 k.n,.string k.s] tV (0,0))from wO.out.blk 2 rfl);clear hlv hN wI hen xP;go_upto_region 2 with fail
 refine aH [rq 0 13,rq 1 10,rq 2 10,rq 3 10,rq 4 10,rq 5 9,rq 6 9,rq 7 9,rq 8 9,(9,true,0),(10,true,0),rq 11 13,rq 12 13,(13,true,0)] ?_;iterate 9 (refine ae rfl rfl fun K hK=>?_;go_simp;apply hK;clear hK K)
 refine af rfl ?_;rw [Bk.out];refine dL rfl _ _ rfl dx i0 _ en.cells rfl Tryz.underlying89 HI.out.1 HI.out.2.1 (HI.out.2.2.1.trans rfl) (by rw [BefE.len];decide) (by rw [BefE.len];decide) ?_;refine wpList_nil ?_;obtain⟨W4,hW4,hs4⟩:=Sat.hide (wO.out.drew.alloc en.cells.toArray dx);rw [←hW4];clear hW4 wO c1 x0 x1 x2 xf;generalize w1.drew.heap.size=bz at hs4 ⊢;have wQ:=FH (bC (size:=5) (n:=1) (hs4.blk 0 rfl) (by simp [BefE.len]) (by unfold maxLen;omega));have xP:=FH (hs4.blk 4 rfl);have c1:W4.cell? ⟨x,1,none⟩=some (.slice la N lc):=by simp [World.cell?,xP.out,aN]
 obtain⟨x0,x1,x2,xf⟩:=aQ (show W4.heap[bk]?=some (.cells #[.bool k.t,.int .i64 k.n,.string k.s] tV (0,0))from hs4.blk 3 rfl);have wT:=FH (show Sat B D W4 (aD dx 5 (.slice la N lc) N (H.es.flatMap BefE.cells)::blk bz en.cells.toArray dx::(orL D o ⟨X.cols,X.tabs⟩ y++(blk bk k.cells.toArray tV::blk x (aN o (.slice la N lc) X.saves H.cs) tTx::l)))from hs4.front 5 rfl);clear hs4 xP;apply And.intro
 ·go_simp;first|done|exact Bk.out
 refine af rfl ?_;refine az _ rfl _ _ tBefs rfl dx i0 _ 5 64 Tryz.underlying89 HI.out.1 HI.out.2.1 HI.out.2.2.1 HI.out.2.2.2 rfl _ N _ rfl wT.out _ 1 _ rfl wQ.out (by simpa using BefE.one en) (by unfold maxLen;omega) (by omega) ?_;intro v7 w7 hs7 h17;refine wpList_nil ?_;clear c1 x0 x1 x2 xf wT wQ;obtain⟨va,vc,rfl⟩:∃va vc,v7 = .slice va (N+1) vc:=hs7.own_shape;have wK:=FH (show Sat B D w7 (blk x (aN o (.slice la N lc) X.saves H.cs) tTx::aD dx 5 (.slice va (N+1) vc) (N+1) (H.es.flatMap BefE.cells++en.cells.toArray.toList)::blk bz en.cells.toArray dx::(orL D o ⟨X.cols,X.tabs⟩ y++(blk bk k.cells.toArray tV::l)))from hs7.front 5 rfl);have xP:=FH (wK.out.blk 0 rfl);have c1:w7.cell? ⟨x,1,none⟩=some (.slice la N lc):=by simp [World.cell?,xP.out,aN]
 have cf:∀j,w7.frozen? ⟨x,j,none⟩=false:=fun j=>by simp [World.frozen?,xP.out]
 obtain⟨x0,x1,x2,xf⟩:=aQ (show w7.heap[bk]?=some (.cells #[.bool k.t,.int .i64 k.n,.string k.s] tV (0,0))from wK.out.blk 5 rfl);have wP:=FH (show Sat B D (w7.setCell ⟨x,1,none⟩ (.slice va (N+1) vc)) (blk x (aN o (.slice va (N+1) vc) X.saves H.cs) tTx::aD dx 5 (.slice va (N+1) vc) (N+1) (H.es.flatMap BefE.cells++en.cells.toArray.toList)::blk bz en.cells.toArray dx::(orL D o ⟨X.cols,X.tabs⟩ y++(blk bk k.cells.toArray tV::l)))from iL o (.slice la N lc) (.slice va (N+1) vc) X.saves H.cs▸Sat.set wK.out 1 (.slice va (N+1) vc));clear hs7 h17 xP wK;apply And.intro
 ·go_simp
 iterate 2 (refine ae rfl rfl fun K hK=>?_;go_simp;apply hK;clear hK K)
 refine af rfl ?_;refine wpList_plain rfl fun K hK=>?_;go_simp;refine hK _ _ ?_;clear hK K;refine wpList_nil ?_;apply And.intro
 ·go_simp
 refine ag ?_;obtain⟨W8,hW8⟩:∃W,W=w7.setCell ⟨x,1,none⟩ (.slice va (N+1) vc):=⟨_,rfl⟩;rw [←hW8]at wP ⊢;clear hW8 c1 cf x0 x1 x2 xf;have wW:=FH (show Sat B D W8 (orL D o ⟨X.cols,X.tabs⟩ y++(blk x (aN o (.slice va (N+1) vc) X.saves H.cs) tTx::aD dx 5 (.slice va (N+1) vc) (N+1) (H.es.flatMap BefE.cells++en.cells.toArray.toList)::(blk bk k.cells.toArray tV::l)))from((wP.out.front 2 rfl).drop.front 2 rfl).front 3 rfl |>.front 1 rfl);clear wP;obtain⟨t2,g2,og2,pc2,ht2,hpv2,hpc2⟩:=iG HY.out HM.out wW.out;obtain⟨d0,d1⟩:=dJ wW.out;rw [hpv2]at d1;have xP:=FH (wW.out.blk 2 rfl);have c0:W8.cell? ⟨x,0,none⟩=some (.pointer (some ⟨o,0,none⟩)):=by simp [World.cell?,xP.out,aN]
 obtain⟨x0,x1,x2,xf⟩:=aQ (show W8.heap[bk]?=some (.cells #[.bool k.t,.int .i64 k.n,.string k.s] tV (0,0))from wW.out.blk 4 rfl);rw [show List.length (OrM.tabs ⟨X.cols,X.tabs⟩)=TN from yU.out]at d1;have CX:=FH (uB k HY.out HM.out ht2 HK.out wW.out.drew);clear ht2 hpv2 xP wW;go_upto_region 3 with fail
 refine aH [rq 0 11,rq 1 11,rq 2 11,rq 3 11,rq 4 11,rq 5 11,rq 6 11,rq 7 11,rq 8 11,rq 9 11,rq 10 11,(11,true,0)] ?_;iterate 11 (refine ae rfl rfl fun K hK=>?_;go_simp;apply hK;clear hK K)
 refine af rfl ?_;refine al rfl fun K hK=>?_;go_simp;refine CX.out.mono ?_;rintro eA wA ⟨bA,rfl,hsA⟩;have xa:=FH hsA;clear hsA CX c0 d0 d1 x0 x1 x2 xf hpc2;refine hK _ _ ?_;clear hK K;refine wpList_nil ?_;apply And.intro
 ·go_simp
 refine ag ?_;go_wp2_with fail;go_end0;have hX:X.out (i:Int) k=⟨X.cols,X.tabs.set i (cR m k),X.log ++ [⟨(i:Int),k,(aP m k).getD []⟩],X.saves,X.curs⟩:=by
  unfold TxM.out;rw [gC HM.out]
  rfl
 rw [hX];have hok:=HH.out;refine⟨rfl,⟨.slice va (N+1) vc,H.es ++ [en],H.cs⟩,⟨?_,hok.curs,hok.saves,hok.three,?_⟩,?_⟩
 ·refine hok.log.snoc ?_
  rw [DR.out];exact⟨rfl,rfl,B3.out⟩
 ·rw [FR];exact HB.out
 ·refine gA (X:=⟨X.cols,X.tabs.set i (cR m k),X.log ++ [⟨(i:Int),k,(aP m k).getD []⟩],X.saves,X.curs⟩) (H:=⟨.slice va (N+1) vc,H.es ++ [en],H.cs⟩) ?_
  show Sat B D wA (_::_::aD dx 5 _ (H.es ++ [en]).length ((H.es ++ [en]).flatMap BefE.cells)::l);rw [FR,HN.out,FT,List.flatMap_singleton];exact(xa.out.front 3 rfl).drop
end Go.Proofs.YtdobimafhbfkhaaGreat
