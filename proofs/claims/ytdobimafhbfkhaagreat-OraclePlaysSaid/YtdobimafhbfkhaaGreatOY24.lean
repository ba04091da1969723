/- The tree as data: something moves between two nodes; two become one, and what follows. -/
import Derived.Test.YtdobimafhbfkhaaGreatOY19
import Derived.Test.YtdobimafhbfkhaaGreatOY23
set_option maxHeartbeats 64000000
namespace Go.Proofs.YtdobimafhbfkhaaGreat
open Go.ChangeShapes Go.WideShapes Go.ChangeAt Go.RowKit
set_option maxRecDepth 100000
set_option linter.unusedSimpArgs false
theorem sI {T:TM}{i a b:Nat}{x y z:NodeM}(hi:i<T.nodes.length)(ha:a<T.nodes.length)(hb:b<T.nodes.length)(j:Nat) :
  (T.tri i a b x y z).nodes[j]?=if b=j then some z else if a=j then some y else if i=j then some x else T.nodes[j]?:=by
 unfold TM.tri;dsimp only;rw [List.getElem?_set,FV,FV];by_cases e1:b=j
 ·rw [if_pos e1,if_pos e1,if_pos hb]
 ·rw [if_neg e1,if_neg e1,List.getElem?_set,FV]
  by_cases e2:a=j
  ·rw [if_pos e2,if_pos e2,if_pos ha]
  ·rw [if_neg e2,if_neg e2,List.getElem?_set]
   by_cases e3:i=j
   ·rw [if_pos e3,if_pos e3,if_pos hi]
   ·rw [if_neg e3,if_neg e3]
theorem dN (T:TM)(i a b:Nat)(x y z:NodeM):(T.tri i a b x y z).nodes.length=T.nodes.length:=by unfold TM.tri;simp
structure Two (T:TM)(d i:Nat)(m:NodeM)(A:List Kid)(cx cy:Kid)(Bs:List Kid)(ctx:List Nat):Prop where
 hi:T.nodes[i]?=some m
 leaf:m.leaf=false
 vals:m.vals = []
 kids:m.kids=(A++cx::cy::Bs).map Kid.id
 len:(A++cx::cy::Bs).length=m.keys.length+1
 oth:∀c∈A++Bs,Rep T.nodes d c.id c.L c.ids∧Fit T.nodes c.id
 hx:Rep T.nodes d cx.id cx.L cx.ids
 hy:Rep T.nodes d cy.id cy.L cy.ids
 seps:Seps m.keys (A++cx::cy::Bs)
 sorted:cJ m.keys
 perm:((i::(A++cx::cy::Bs).flatMap Kid.ids)++ctx++T.free).Perm (List.range T.nodes.length)
section
variable {T : TM} {d i : Nat} {m : NodeM} {A : List Kid} {cx cy : Kid} {Bs : List Kid} {ctx : List Nat}
structure ApartB (T:TM)(i:Nat)(A:List Kid)(cx cy:Kid)(Bs:List Kid)(ctx:List Nat):Prop where
 lti:i<T.nodes.length
 ltx:cx.id<T.nodes.length
 lty:cy.id<T.nodes.length
 ix:i≠cx.id
 iy:i≠cy.id
 xy:cx.id≠cy.id
 other:∀c∈A++Bs,∀x∈c.ids,i≠x∧cx.id≠x∧cy.id≠x
 inx:∀ids,cx.ids=cx.id::ids→∀x∈ids,i≠x∧cx.id≠x∧cy.id≠x
 iny:∀ids,cy.ids=cy.id::ids→∀x∈ids,i≠x∧cx.id≠x∧cy.id≠x
 ctx:∀x∈ctx,i≠x∧cx.id≠x∧cy.id≠x
theorem Two.apart (h:Two T d i m A cx cy Bs ctx):ApartB T i A cx cy Bs ctx:=by
 have hp:=h.perm;rw [FT,F1,F1]at hp;have hnd:=hp.nodup_iff.2 List.nodup_range;have hmem:∀x,x∈((i::(A.flatMap Kid.ids++(cx.ids++(cy.ids++Bs.flatMap Kid.ids))))++ctx++T.free)→x<T.nodes.length:=fun x hx=>List.mem_range.1 (hp.mem_iff.1 hx);have mx:=h.hx.self;have my:=h.hy.self;simp only [List.cons_append,FU,List.nodup_cons,List.nodup_append,F2,not_or]at hnd hmem;obtain⟨⟨n1,n2,n3,n4,n5,n6⟩,ndA,⟨ndx,⟨ndy,⟨ndB,_,hB⟩,hy⟩,hx⟩,hA⟩:=hnd;refine⟨hmem _ (by simp),hmem _ (by simp [mx]),hmem _ (by simp [my]),fun e=>n2 (e▸mx),fun e=>n3 (e▸my),fun e=>hx _ mx _ (.inl (e▸my)) rfl,?_,?_,?_,?_⟩
 ·intro c hc x hxx
  rcases F2.1 hc with hcA|hcB
  ·have hm:x∈A.flatMap Kid.ids:=Gi.2 ⟨c,hcA,hxx⟩
   exact⟨fun e=>n1 (e▸hm),fun e=>hA _ hm _ (.inl mx) e.symm,fun e=>hA _ hm _ (.inr (.inl my)) e.symm⟩
  ·have hm:x∈Bs.flatMap Kid.ids:=Gi.2 ⟨c,hcB,hxx⟩
   exact⟨fun e=>n4 (e▸hm),fun e=>hx _ mx _ (.inr (.inl hm)) e,fun e=>hy _ my _ (.inl hm) e⟩
 ·intro ids he x hxx
  have hm:x∈cx.ids:=by rw [he];exact F4 _ hxx
  rw [he]at ndx;exact⟨fun e=>n2 (e▸hm),fun e=>(List.nodup_cons.1 ndx).1 (e▸hxx),fun e=>hx _ hm _ (.inl my) e.symm⟩
 ·intro ids he x hxx
  have hm:x∈cy.ids:=by rw [he];exact F4 _ hxx
  rw [he]at ndy;exact⟨fun e=>n3 (e▸hm),fun e=>hx _ mx _ (.inl hm) e,fun e=>(List.nodup_cons.1 ndy).1 (e▸hxx)⟩
 ·intro x hxx
  exact⟨fun e=>n5 (e▸hxx),fun e=>hx _ mx _ (.inr (.inr (.inl hxx))) e,fun e=>hy _ my _ (.inr (.inl hxx)) e⟩
theorem Two.move (h:Two T d i m A cx cy Bs ctx){ix iy i1 i2:List Nat}{l1 l2:PL}{mx my:NodeM}{sep:Val}(ex:cx.ids=cx.id::ix)(ey:cy.ids=cy.id::iy)
  (h1:RepM T.nodes d mx l1 i1) (h2:RepM T.nodes d my l2 i2) (hL:cx.L++cy.L=l1++l2) (hI:ix++iy=i1++i2) (s1:∀x∈l1,ai x.1 sep<0) (s2:∀x∈l2,ai sep x.1≤0) (n1:l1≠[]) (n2:l2≠[])
  (f1:2≤mx.size∧mx.size≤4) (f2:2≤my.size∧my.size≤4) :
  ∃ids3,Rep (T.tri i cx.id cy.id { m with keys:=m.keys.set A.length sep } mx my).nodes (d+1) i ((A++cx::cy::Bs).flatMap Kid.L) ids3∧(ids3++ctx++T.free).Perm (List.range T.nodes.length) ∧
   (∀x∈ctx,(T.tri i cx.id cy.id { m with keys:=m.keys.set A.length sep } mx my).nodes[x]?=T.nodes[x]?)∧(T.tri i cx.id cy.id { m with keys:=m.keys.set A.length sep } mx my).nodes[i]?=some { m with keys:=m.keys.set A.length sep }:=by
 have ap:=h.apart;have hg:=sI (T:=T) (i:=i) (a:=cx.id) (b:=cy.id) (x:={ m with keys:=m.keys.set A.length sep }) (y:=mx) (z:=my) ap.lti ap.ltx ap.lty;generalize T.tri i cx.id cy.id { m with keys:=m.keys.set A.length sep } mx my=T' at hg ⊢;have hsame:∀x,i≠x∧cx.id≠x∧cy.id≠x→T'.nodes[x]?=T.nodes[x]?:=fun x hx=>by rw [hg,if_neg hx.2.2,if_neg hx.2.1,if_neg hx.1]
 have hin:∀x∈i1++i2,T'.nodes[x]?=T.nodes[x]?:=fun x hx=>by
  rw [←hI]at hx;rcases F2.1 hx with hx|hx
  ·exact hsame x (ap.inx ix ex x hx)
  ·exact hsame x (ap.iny iy ey x hx)
 have gi:T'.nodes[i]?=some { m with keys:=m.keys.set A.length sep }:=by rw [hg,if_neg (Ne.symm ap.iy),if_neg (Ne.symm ap.ix),if_pos rfl]
 have gx:T'.nodes[cx.id]?=some mx:=by rw [hg,if_neg (Ne.symm ap.xy),if_pos rfl]
 have gy:T'.nodes[cy.id]?=some my:=by rw [hg,if_pos rfl]
 have r1:=(h1.frame (fun x hx=>hin x (F2.2 (.inl hx)))).toRep gx;have r2:=(h2.frame (fun x hx=>hin x (F2.2 (.inr hx)))).toRep gy;obtain⟨q1,q2⟩:=Seps.move (kx:=⟨cx.id,l1,cx.id::i1⟩) (ky:=⟨cy.id,l2,cy.id::i2⟩) h.len h.seps h.sorted hL s1 s2 n1 n2;refine⟨i::(A++⟨cx.id,l1,cx.id::i1⟩::⟨cy.id,l2,cy.id::i2⟩::Bs).flatMap Kid.ids,⟨{ m with keys:=m.keys.set A.length sep },gi,h.leaf,h.vals,A++⟨cx.id,l1,cx.id::i1⟩::⟨cy.id,l2,cy.id::i2⟩::Bs,by dsimp only;rw [h.kids];simp,by dsimp only;rw [FV,←h.len];simp,fun c hc=>?_,q1,q2,?_,rfl⟩,?_,fun x hx=>hsame x (ap.ctx x hx),gi⟩
 ·have hoth:c∈A++Bs→Rep T'.nodes d c.id c.L c.ids∧Fit T'.nodes c.id:=fun hc=>by
   obtain⟨hr,hf⟩:=h.oth c hc;have hs:∀x∈c.ids,T'.nodes[x]?=T.nodes[x]?:=fun x hx=>hsame x (ap.other c hc x hx);exact⟨hr.frame hs,hf.frame (hs _ hr.self)⟩
  rcases F2.1 hc with hc|hc
  ·exact hoth (F2.2 (.inl hc))
  ·rcases Gl.1 hc with rfl|hc
   ·exact⟨r1,mx,gx,f1⟩
   ·rcases Gl.1 hc with rfl|hc
    ·exact⟨r2,my,gy,f2⟩
    ·exact hoth (F2.2 (.inr hc))
 ·simp only [FT,F1]
  rw [←FU cx.L,hL,FU]
 ·refine List.Perm.trans ?_ h.perm
  have e:∀a,(ix++iy).count a=(i1++i2).count a:=fun a=>by rw [hI]
  rw [List.perm_iff_count];intro a;have:=e a;simp only [List.count_append]at this;simp only [FT,F1,ex,ey,List.cons_append,List.count_append,List.count_cons,FU];omega
theorem Two.joined (h:Two T d i m A cx cy Bs ctx){ix iy:List Nat}{mx my:NodeM}(ex:cx.ids=cx.id::ix)(ey:cy.ids=cy.id::iy)
  (h1:RepM T.nodes d mx (cx.L++cy.L) (ix++iy)) (f1:2≤mx.size∧mx.size≤4) :
  ∃ids3,Rep ((T.tri i cx.id cy.id { m with keys:=aR m.keys A.length,kids:=aR m.kids (A.length+1) } mx my).give cy.id).nodes (d+1) i ((A++cx::cy::Bs).flatMap Kid.L) ids3∧(ids3++ctx++(T.free ++ [cy.id])).Perm (List.range T.nodes.length) ∧
   (∀x∈ctx,((T.tri i cx.id cy.id { m with keys:=aR m.keys A.length,kids:=aR m.kids (A.length+1) } mx my).give cy.id).nodes[x]?=T.nodes[x]?)∧((T.tri i cx.id cy.id { m with keys:=aR m.keys A.length,kids:=aR m.kids (A.length+1) } mx my).give cy.id).nodes[i]?=some { m with keys:=aR m.keys A.length,kids:=aR m.kids (A.length+1) }:=by
 have ap:=h.apart;have hg:∀j,((T.tri i cx.id cy.id { m with keys:=aR m.keys A.length,kids:=aR m.kids (A.length+1) } mx my).give cy.id).nodes[j]?=if cy.id=j then some (aS false)else if cx.id=j then some mx else if i=j then some { m with keys:=aR m.keys A.length,kids:=aR m.kids (A.length+1) } else T.nodes[j]?:=by
  intro j;unfold TM.give;dsimp only;rw [List.getElem?_set,dN];by_cases e1:cy.id=j
  ·rw [if_pos e1,if_pos e1,if_pos ap.lty]
  ·rw [if_neg e1,if_neg e1,sI ap.lti ap.ltx ap.lty,if_neg e1]
 generalize (T.tri i cx.id cy.id { m with keys:=aR m.keys A.length,kids:=aR m.kids (A.length+1) } mx my).give cy.id=T' at hg ⊢;have hsame:∀x,i≠x∧cx.id≠x∧cy.id≠x→T'.nodes[x]?=T.nodes[x]?:=fun x hx=>by rw [hg,if_neg hx.2.2,if_neg hx.2.1,if_neg hx.1]
 have hin:∀x∈ix++iy,T'.nodes[x]?=T.nodes[x]?:=fun x hx=>by
  rcases F2.1 hx with hx|hx
  ·exact hsame x (ap.inx ix ex x hx)
  ·exact hsame x (ap.iny iy ey x hx)
 have gi:T'.nodes[i]?=some { m with keys:=aR m.keys A.length,kids:=aR m.kids (A.length+1) }:=by rw [hg,if_neg (Ne.symm ap.iy),if_neg (Ne.symm ap.ix),if_pos rfl]
 have gx:T'.nodes[cx.id]?=some mx:=by rw [hg,if_neg (Ne.symm ap.xy),if_pos rfl]
 have r1:=(h1.frame hin).toRep gx;have hlen:=h.len;simp only [FR,List.length_cons]at hlen;have q1:=Seps.join (cm:=⟨cx.id,cx.L++cy.L,cx.id::(ix++iy)⟩) h.seps rfl;have q2:=h.sorted.sublist (nM m.keys A.length);refine⟨i::(A++⟨cx.id,cx.L++cy.L,cx.id::(ix++iy)⟩::Bs).flatMap Kid.ids,⟨{ m with keys:=aR m.keys A.length,kids:=aR m.kids (A.length+1) },gi,h.leaf,h.vals,A++⟨cx.id,cx.L++cy.L,cx.id::(ix++iy)⟩::Bs,?_,?_,fun c hc=>?_,q1,q2,?_,rfl⟩,?_,fun x hx=>hsame x (ap.ctx x hx),gi⟩
 ·dsimp only
  unfold aR;rw [h.kids];simp only [List.map_append,List.map_cons];have t1:(A.map Kid.id++cx.id::cy.id::Bs.map Kid.id).take (A.length+1)=A.map Kid.id ++ [cx.id]:=by
   rw [show A.map Kid.id++cx.id::cy.id::Bs.map Kid.id=(A.map Kid.id ++ [cx.id])++cy.id::Bs.map Kid.id by simp,show A.length+1=(A.map Kid.id ++ [cx.id]).length by simp,List.take_left]
  have t2:(A.map Kid.id++cx.id::cy.id::Bs.map Kid.id).drop (A.length+1+1)=Bs.map Kid.id:=by
   rw [show A.map Kid.id++cx.id::cy.id::Bs.map Kid.id=(A.map Kid.id ++ [cx.id,cy.id])++Bs.map Kid.id by simp,show A.length+1+1=(A.map Kid.id ++ [cx.id,cy.id]).length by simp,List.drop_left]
  rw [t1,t2];simp
 ·dsimp only
  have:=da m.keys A.length (by omega);simp;omega
 ·have hoth:c∈A++Bs→Rep T'.nodes d c.id c.L c.ids∧Fit T'.nodes c.id:=fun hc=>by
   obtain⟨hr,hf⟩:=h.oth c hc;have hs:∀x∈c.ids,T'.nodes[x]?=T.nodes[x]?:=fun x hx=>hsame x (ap.other c hc x hx);exact⟨hr.frame hs,hf.frame (hs _ hr.self)⟩
  rcases F2.1 hc with hc|hc
  ·exact hoth (F2.2 (.inl hc))
  ·rcases Gl.1 hc with rfl|hc
   ·exact⟨r1,mx,gx,f1⟩
   ·exact hoth (F2.2 (.inr hc))
 ·simp only [FT,F1,FU]
 ·refine List.Perm.trans ?_ h.perm
  rw [List.perm_iff_count];intro a;simp only [FT,F1,ex,ey,List.cons_append,List.count_append,List.count_cons,List.count_nil,FU];omega
end
section
variable {T : TM} {d i : Nat} {m mx my : NodeM} {A : List Kid} {cx cy : Kid} {Bs : List Kid} {ctx : List Nat}
theorem Two.kx (h:Two T d i m A cx cy Bs ctx):m.kids[A.length]?=some cx.id∧m.kids[A.length+1]?=some cy.id:=by
 rw [h.kids,Gg,Gg];rw [Gb (Gn _),Gb (by omega),Nat.sub_self,show A.length+1-A.length=1 by omega];exact⟨rfl,rfl⟩
theorem Two.sep (h:Two T d i m A cx cy Bs ctx):∃sk,m.keys[A.length]?=some sk∧(∀x∈cx.L,ai x.1 sk<0)∧(∀x∈cy.L,ai sk x.1≤0)∧A.length<m.keys.length∧m.kids.length=m.keys.length+1:=by
 have hl:=h.len;simp only [FR,List.length_cons]at hl;obtain⟨sk,hsk⟩:∃sk,m.keys[A.length]?=some sk:=⟨_,FP (by omega)⟩;obtain⟨g1,g2⟩:=h.seps _ sk hsk;rw [dI,if_neg (by omega)]at g1;rw [dF,if_neg (by omega),show A.length+1-A.length-1=0 by omega,List.drop_zero]at g2;refine⟨sk,hsk,fun x hx=>g1 x ?_,fun x hx=>g2 x ?_,by omega,by rw [h.kids,FZ,h.len]⟩
 ·simp only [FT,F1,F2];exact .inr (.inl hx)
 ·simp only [F1,F2];exact .inl hx
theorem kE {α:Type}{l:List α}{q:Nat}{x:α}(hl:l.length=q+1)(hx:l[q]?=some x):l.drop q = [x]:=by
 have hlt:q<l.length:=by omega
 rw [List.drop_eq_getElem_cons hlt,Gk (by omega)];rw [FP hlt]at hx;rw [Option.some.inj hx]
theorem ij {α:Type}{l:List α}{x:α}(h:l[0]?=some x):l.take 1 = [x]:=by cases l with
 | nil=>simp at h
 | cons a l=>simp at h;subst h;simp
theorem oT {α:Type}(l:List α)(x:α):aT l 0 x=x::l:=by simp [aT]
theorem km {α:Type}(l:List α):aR l 0=l.drop 1:=by simp [aR]
structure Done (T T':TM)(d i:Nat)(L:PL)(ctx:List Nat)(n:Nat):Prop where
 rep:∃ids3,Rep T'.nodes (d+1) i L ids3∧(ids3++ctx++T'.free).Perm (List.range T'.nodes.length)
 ctx:∀x∈ctx,T'.nodes[x]?=T.nodes[x]?
 node:∃m3,T'.nodes[i]?=some m3∧m3.leaf=false∧m3.size=n
 len:T'.nodes.length=T.nodes.length
 k:T'.k=T.k
abbrev pq (A:List Kid)(cx cy:Kid)(Bs:List Kid):PL:=(A++cx::cy::Bs).flatMap Kid.L
theorem op_left (h:Two T d i m A cx cy Bs ctx)(hmx:T.nodes[cx.id]?=some mx)(hmy:T.nodes[cy.id]?=some my)(zx:3≤mx.size∧mx.size≤4)(zy:my.size=1)(hsL:bh (cx.L++cy.L))(hmk:m.kids.length≤1000) :
  ∃T',(∀B D t,oH B D t T T' 132 i ((A.length+1:Nat):Int))∧Done T T' d i (pq A cx cy Bs) ctx m.size:=by
 obtain⟨mx',ix,hmx',rx,ex⟩:=kd h.hx;obtain⟨my',iy,hmy',ry,ey⟩:=kd h.hy;rw [hmx]at hmx';cases hmx';rw [hmy]at hmy';cases hmy';obtain⟨k1,k2⟩:=h.kx;obtain⟨sk,hsk,sx,sy,hlt,hkl⟩:=h.sep;have ap:=h.apart;cases d with
 | zero =>
  have hxl:mx.leaf=true:=rx.1;have hyl:my.leaf=true:=ry.1;unfold NodeM.size at zx zy;rw [hxl,if_pos rfl]at zx;rw [hyl,if_pos rfl]at zy;obtain⟨q,hq⟩:∃q,mx.keys.length=q+1:=⟨mx.keys.length-1,by omega⟩;have hxv:mx.vals.length=q+1:=by rw [rx.2.2.1,hq]
  obtain⟨xk,hxk⟩:∃xk,mx.keys[q]?=some xk:=⟨_,FP (by omega)⟩;obtain⟨xv,hxvv⟩:∃xv,mx.vals[q]?=some xv:=⟨_,FP (by omega)⟩;have hcat:=RepM.concat0 rx ry ⟨true,mx.keys++my.keys,mx.vals++my.vals,[]⟩ rfl rfl rfl rfl;obtain⟨l1,l2,i1,i2,c1,c2,c3,c4,c5,c6,c7,c8⟩:=RepM.cut0 (h:=q) (s:=xk) (m1:={ mx with keys:=mx.keys.take q,vals:=mx.vals.take q }) (m2:={ my with keys:=aT my.keys 0 xk,vals:=aT my.vals 0 xv }) hcat hsL
   (by dsimp only;rw [Gm (by omega)];exact hxk) (by omega) hxl rx.2.1 (by dsimp only;rw [F9 (by omega)]) (by dsimp only;rw [F9 (by omega)]) hyl ry.2.1
   (by dsimp only;rw [List.drop_append_of_le_length (by omega),kE hq hxk,oT];rfl) (by dsimp only;rw [List.drop_append_of_le_length (by omega),kE hxv hxvv,oT];rfl)
  obtain⟨ids3,r1,r2,r3,r4⟩:=h.move ex ey c1 c2 c3 c4 c5 c6 c7 c8 (by unfold NodeM.size;dsimp only;rw [hxl];simp;omega) (by unfold NodeM.size;dsimp only;rw [hyl];simp [bQ];omega);exact⟨_,fun B D t w l ha=>nr h.hi hmx hmy ap.ix ap.iy ap.xy k1 k2 hlt hmk hyl hq hxv ry.2.2.1 (by omega) (by omega) hxk hxvv hsk ha,⟨ids3,r1,by rw [dN];exact r2⟩,r3,⟨_,r4,h.leaf,by unfold NodeM.size;dsimp only;rw [h.leaf];rfl⟩,dN ..,rfl⟩
 | succ d =>
  have hxl:mx.leaf=false:=rx.1;have hyl:my.leaf=false:=ry.1;obtain⟨_,hxvals,csx,hxk1,hxk2,_⟩:=id rx;obtain⟨_,hyvals,csy,hyk1,hyk2,_⟩:=id ry;have hxkl:mx.kids.length=mx.keys.length+1:=by rw [hxk1,FZ,hxk2]
  have hykl:my.kids.length=my.keys.length+1:=by rw [hyk1,FZ,hyk2]
  unfold NodeM.size at zx zy;rw [hxl]at zx;rw [hyl]at zy;simp only [Bool.false_eq_true,if_false]at zx zy;obtain⟨q,hq⟩:∃q,mx.keys.length=q+1:=⟨mx.keys.length-1,by omega⟩;have hxv:mx.kids.length=q+2:=by omega
  obtain⟨xk,hxk⟩:∃xk,mx.keys[q]?=some xk:=⟨_,FP (by omega)⟩;obtain⟨xd,hxd⟩:∃xd,mx.kids[q+1]?=some xd:=⟨_,FP (by omega)⟩;have hcat:=RepM.concat rx ry sx sy ⟨false,mx.keys++sk::my.keys,[],mx.kids++my.kids⟩ rfl rfl rfl rfl;obtain⟨l1,l2,i1,i2,c1,c2,c3,c4,c5,c6,c7,c8⟩:=RepM.cut (h:=q) (s:=xk) (m1:={ mx with keys:=mx.keys.take q,kids:=mx.kids.take (q+1) }) (m2:={ my with keys:=aT my.keys 0 sk,kids:=aT my.kids 0 xd }) hcat
   (by dsimp only;rw [Gm (by omega)];exact hxk) hxl hxvals (by dsimp only;rw [F9 (by omega)]) (by dsimp only;rw [F9 (by omega)]) hyl hyvals
   (by dsimp only;rw [show q+1=mx.keys.length by omega,List.drop_left,oT]) (by dsimp only;rw [List.drop_append_of_le_length (by omega),kE hxv hxd,oT];rfl)
  obtain⟨ids3,r1,r2,r3,r4⟩:=h.move ex ey c1 c2 c3 c4 c5 c6 c7 c8 (by unfold NodeM.size;dsimp only;rw [hxl];simp;omega) (by unfold NodeM.size;dsimp only;rw [hyl];simp [bQ];omega);exact⟨_,fun B D t w l ha=>mw h.hi hmx hmy ap.ix ap.iy ap.xy k1 k2 hlt hmk hyl hq hxv (by omega) (by omega) (by omega) hxk hxd hsk ha,⟨ids3,r1,by rw [dN];exact r2⟩,r3,⟨_,r4,h.leaf,by unfold NodeM.size;dsimp only;rw [h.leaf];rfl⟩,dN ..,rfl⟩
theorem pW (h:Two T d i m A cx cy Bs ctx)(hmx:T.nodes[cx.id]?=some mx)(hmy:T.nodes[cy.id]?=some my)(zx:mx.size=1)(zy:3≤my.size∧my.size≤4)(hsL:bh (cx.L++cy.L))(hmk:m.kids.length≤1000) :
  ∃T',(∀B D t,oH B D t T T' 133 i (A.length:Int))∧Done T T' d i (pq A cx cy Bs) ctx m.size:=by
 obtain⟨mx',ix,hmx',rx,ex⟩:=kd h.hx;obtain⟨my',iy,hmy',ry,ey⟩:=kd h.hy;rw [hmx]at hmx';cases hmx';rw [hmy]at hmy';cases hmy';obtain⟨k1,k2⟩:=h.kx;obtain⟨sk,hsk,sx,sy,hlt,hkl⟩:=h.sep;have ap:=h.apart;cases d with
 | zero =>
  have hxl:mx.leaf=true:=rx.1;have hyl:my.leaf=true:=ry.1;unfold NodeM.size at zx zy;rw [hxl,if_pos rfl]at zx;rw [hyl,if_pos rfl]at zy;obtain⟨q,hq⟩:∃q,my.keys.length=q+1:=⟨my.keys.length-1,by omega⟩;have hyv:my.vals.length=q+1:=by rw [ry.2.2.1,hq]
  have hxv:mx.vals.length=1:=by rw [rx.2.2.1,zx]
  obtain⟨yk,hyk⟩:∃yk,my.keys[0]?=some yk:=⟨_,FP (by omega)⟩;obtain⟨yk1,hyk1⟩:∃yk1,my.keys[1]?=some yk1:=⟨_,FP (by omega)⟩;obtain⟨yd,hyd⟩:∃yd,my.vals[0]?=some yd:=⟨_,FP (by omega)⟩;have t1:my.keys.take 1 = [yk]:=ij hyk;have t2:my.vals.take 1 = [yd]:=ij hyd;have hcat:=RepM.concat0 rx ry ⟨true,mx.keys++my.keys,mx.vals++my.vals,[]⟩ rfl rfl rfl rfl;obtain⟨l1,l2,i1,i2,c1,c2,c3,c4,c5,c6,c7,c8⟩:=RepM.cut0 (h:=mx.keys.length+1) (s:=yk1) (m1:={ mx with keys:=mx.keys ++ [yk],vals:=mx.vals ++ [yd] }) (m2:={ my with keys:=aR my.keys 0,vals:=aR my.vals 0 }) hcat hsL
   (by dsimp only;rw [Gb (by omega),show mx.keys.length+1-mx.keys.length=1 by omega];exact hyk1) (by omega) hxl rx.2.1 (by dsimp only;rw [List.take_length_add_append,t1]) (by dsimp only;rw [show mx.keys.length+1=mx.vals.length+1 by omega,List.take_length_add_append,t2]) hyl ry.2.1
   (by dsimp only;rw [List.drop_length_add_append,km]) (by dsimp only;rw [show mx.keys.length+1=mx.vals.length+1 by omega,List.drop_length_add_append,km])
  obtain⟨ids3,r1,r2,r3,r4⟩:=h.move ex ey c1 c2 c3 c4 c5 c6 c7 c8 (by unfold NodeM.size;dsimp only;rw [hxl];simp;omega) (by unfold NodeM.size;dsimp only;rw [hyl];simp [km];omega);exact⟨_,fun B D t w l ha=>l6 h.hi hmx hmy ap.ix ap.iy ap.xy k1 k2 hlt hmk hxl hq hyv (by omega) (by omega) (by omega) hyk hyd hsk hyk1 ha,⟨ids3,r1,by rw [dN];exact r2⟩,r3,⟨_,r4,h.leaf,by unfold NodeM.size;dsimp only;rw [h.leaf];rfl⟩,dN ..,rfl⟩
 | succ d =>
  have hxl:mx.leaf=false:=rx.1;have hyl:my.leaf=false:=ry.1;obtain⟨_,hxvals,csx,hxk1,hxk2,_⟩:=id rx;obtain⟨_,hyvals,csy,hyk1,hyk2,_⟩:=id ry;have hxkl:mx.kids.length=mx.keys.length+1:=by rw [hxk1,FZ,hxk2]
  have hykl:my.kids.length=my.keys.length+1:=by rw [hyk1,FZ,hyk2]
  unfold NodeM.size at zx zy;rw [hxl]at zx;rw [hyl]at zy;simp only [Bool.false_eq_true,if_false]at zx zy;obtain⟨q,hq⟩:∃q,my.keys.length=q+1:=⟨my.keys.length-1,by omega⟩;have hyv:my.kids.length=q+2:=by omega
  obtain⟨yk,hyk⟩:∃yk,my.keys[0]?=some yk:=⟨_,FP (by omega)⟩;obtain⟨yd,hyd⟩:∃yd,my.kids[0]?=some yd:=⟨_,FP (by omega)⟩;have t2:my.kids.take 1 = [yd]:=ij hyd;have hcat:=RepM.concat rx ry sx sy ⟨false,mx.keys++sk::my.keys,[],mx.kids++my.kids⟩ rfl rfl rfl rfl;have ek:mx.keys++sk::my.keys=(mx.keys ++ [sk])++my.keys:=by simp
  have el:mx.keys.length+1=(mx.keys ++ [sk]).length:=by simp
  obtain⟨l1,l2,i1,i2,c1,c2,c3,c4,c5,c6,c7,c8⟩:=RepM.cut (h:=mx.keys.length+1) (s:=yk) (m1:={ mx with keys:=mx.keys ++ [sk],kids:=mx.kids ++ [yd] }) (m2:={ my with keys:=aR my.keys 0,kids:=aR my.kids 0 }) hcat
   (by dsimp only;rw [ek,Gb (by simp),←el,Nat.sub_self];exact hyk) hxl hxvals (by dsimp only;rw [ek,el,List.take_left]) (by dsimp only;rw [show mx.keys.length+1+1=mx.kids.length+1 by omega,List.take_length_add_append,t2]) hyl hyvals
   (by dsimp only;rw [ek,show mx.keys.length+1+1=(mx.keys ++ [sk]).length+1 by simp,List.drop_length_add_append,km]) (by dsimp only;rw [show mx.keys.length+1+1=mx.kids.length+1 by omega,List.drop_length_add_append,km])
  obtain⟨ids3,r1,r2,r3,r4⟩:=h.move ex ey c1 c2 c3 c4 c5 c6 c7 c8 (by unfold NodeM.size;dsimp only;rw [hxl];simp;omega) (by unfold NodeM.size;dsimp only;rw [hyl];simp [km];omega);exact⟨_,fun B D t w l ha=>kR h.hi hmx hmy ap.ix ap.iy ap.xy k1 k2 hlt hmk hxl hq hyv (by omega) (by omega) (by omega) hyk hyd hsk ha,⟨ids3,r1,by rw [dN];exact r2⟩,r3,⟨_,r4,h.leaf,by unfold NodeM.size;dsimp only;rw [h.leaf];rfl⟩,dN ..,rfl⟩
theorem oO (h:Two T d i m A cx cy Bs ctx)(hmx:T.nodes[cx.id]?=some mx)(hmy:T.nodes[cy.id]?=some my)(z:mx.size+my.size=3)(hmk:m.kids.length≤1000)(hbig:T.nodes.length≤1000000) :
  ∃T',(∀B D t,oH B D t T T' 134 i (A.length:Int))∧Done T T' d i (pq A cx cy Bs) ctx (m.size-1):=by
 obtain⟨mx',ix,hmx',rx,ex⟩:=kd h.hx;obtain⟨my',iy,hmy',ry,ey⟩:=kd h.hy;rw [hmx]at hmx';cases hmx';rw [hmy]at hmy';cases hmy';obtain⟨k1,k2⟩:=h.kx;obtain⟨sk,hsk,sx,sy,hlt,hkl⟩:=h.sep;have ap:=h.apart;have hfl:T.free.length≤1000000:=by have:=h.perm.length_eq;simp at this;omega
 obtain⟨q,hq⟩:∃q,m.keys.length=q+1:=⟨m.keys.length-1,by omega⟩;have hd:(aR m.kids (A.length+1)).length+1=m.kids.length:=da _ _ (by omega);cases d with
 | zero =>
  have hxl:mx.leaf=true:=rx.1;have hyl:my.leaf=true:=ry.1;unfold NodeM.size at z;rw [hxl,hyl,if_pos rfl,if_pos rfl]at z;have a1:=rx.2.1;have a2:=ry.2.1;have a3:=rx.2.2.1;have a4:=ry.2.2.1;have hcat:=RepM.concat0 rx ry { mx with keys:=mx.keys++my.keys,vals:=mx.vals++my.vals,kids:=mx.kids++my.kids } hxl (by dsimp only;rw [a1,a2];rfl) rfl rfl;obtain⟨ids3,r1,r2,r3,r4⟩:=h.joined (my:=my) ex ey hcat (by unfold NodeM.size;dsimp only;rw [hxl];simp;omega);exact⟨_,fun B D t w l ha=>um h.hi hmx hmy ap.ix ap.iy ap.xy k1 k2 hlt hmk hxl hq (by omega) (by omega) (by omega) (by rw [a1];simp) (by omega) (by omega) (by rw [a2];simp) hsk hbig hfl ha,⟨ids3,r1,by unfold TM.give;dsimp only;rw [FV,dN];exact r2⟩,r3,⟨_,r4,h.leaf,by unfold NodeM.size;dsimp only;rw [h.leaf];simp only [Bool.false_eq_true,if_false];omega⟩,by unfold TM.give;dsimp only;rw [FV,dN],rfl⟩
 | succ d =>
  have hxl:mx.leaf=false:=rx.1;have hyl:my.leaf=false:=ry.1;obtain⟨_,hxvals,csx,hxk1,hxk2,_⟩:=id rx;obtain⟨_,hyvals,csy,hyk1,hyk2,_⟩:=id ry;have hxkl:mx.kids.length=mx.keys.length+1:=by rw [hxk1,FZ,hxk2]
  have hykl:my.kids.length=my.keys.length+1:=by rw [hyk1,FZ,hyk2]
  unfold NodeM.size at z;rw [hxl,hyl]at z;simp only [Bool.false_eq_true,if_false]at z;have hcat:=RepM.concat rx ry sx sy { mx with keys:=(mx.keys ++ [sk])++my.keys,vals:=mx.vals++my.vals,kids:=mx.kids++my.kids } hxl (by dsimp only;rw [hxvals,hyvals];rfl) (by dsimp only;simp) rfl;obtain⟨ids3,r1,r2,r3,r4⟩:=h.joined (my:=my) ex ey hcat (by unfold NodeM.size;dsimp only;rw [hxl];simp;omega);exact⟨_,fun B D t w l ha=>sd h.hi hmx hmy ap.ix ap.iy ap.xy k1 k2 hlt hmk hxl hq (by omega) (by omega) (by rw [hxvals];simp) (by omega) (by omega) (by rw [hyvals];simp) (by omega) hsk hbig hfl ha,⟨ids3,r1,by unfold TM.give;dsimp only;rw [FV,dN];exact r2⟩,r3,⟨_,r4,h.leaf,by unfold NodeM.size;dsimp only;rw [h.leaf];simp only [Bool.false_eq_true,if_false];omega⟩,by unfold TM.give;dsimp only;rw [FV,dN],rfl⟩
end
def cY (L:PL)(k:Val):PL:=L.filter (fun p=>!decide (ai p.1 k=0))
theorem qv (A B:PL)(k:Val):cY (A++B) k=cY A k++cY B k:=List.filter_append ..
theorem lk {L:PL}{k:Val}(h:∀x∈L,ai x.1 k≠0):cY L k=L:=List.filter_eq_self.2 (fun x hx=>by simpa using h x hx)
theorem pI {A M Bs:PL}{k:Val}(hA:∀x∈A,ai x.1 k<0)(hB:∀x∈Bs,ai k x.1<0):cY (A++M++Bs) k=A++cY M k++Bs:=by
 rw [qv,qv,lk (L:=A) (fun x hx=>by have:=hA x hx;omega),lk (L:=Bs) (fun x hx=>by have:=(eN x.1 k).2 (hB x hx);omega)]
theorem iM {L:PL}{k:Val}(h:bh L):bh (cY L k):=List.Pairwise.filter _ h
theorem rY {L:PL}{k:Val}(h:fW L):fW (cY L k):=fun x hx=>h x (List.mem_filter.1 hx).1
theorem uZ {L:PL}{k:Val}{x:Val×VT}(h:x∈cY L k):x∈L:=(List.mem_filter.1 h).1
theorem tl {α β:Type}(xs:List α)(ys:List β)(n:Nat)(h:ys.length=xs.length):(aR xs n).zip (aR ys n)=(xs.zip ys).take n++(xs.zip ys).drop (n+1):=by
 unfold aR;rw [List.zip_append (by simp [h]),iK,iE]
theorem vz {xs:List Val}{ys:List VT}{k:Val}(hl:ys.length=xs.length)(hs:bh (xs.zip ys))(h:dW xs k=true) :
  (aR xs (bg xs k)).zip (aR ys (bg xs k))=cY (xs.zip ys) k∧cL (xs.zip ys) k=true:=by
 have hsk:=eO hl hs;obtain⟨x,hx,hx0⟩:=(gn (ks:=xs) k).1 h;have hlt:=(FO.1 hx).1;obtain⟨y,hy⟩:∃y,ys[bg xs k]?=some y:=⟨_,FP (by omega)⟩;have hz:(xs.zip ys)[bg xs k]?=some (x,y):=List.getElem?_zip_eq_some.2 ⟨hx,hy⟩;have hzl:bg xs k<(xs.zip ys).length:=(FO.1 hz).1;have e1:xs.zip ys=(xs.zip ys).take (bg xs k) ++ [(x,y)]++(xs.zip ys).drop (bg xs k+1):=by
  have:=Gj (bg xs k) (xs.zip ys);rw [List.drop_eq_getElem_cons hzl]at this;rw [FP hzl]at hz;rw [Option.some.inj hz]at this;rw [FU];exact this.symm
 have hA:∀p∈(xs.zip ys).take (bg xs k),ai p.1 k<0:=eF (fun j p hj hlt=>(go k hsk j p.1 (eQ hj)).1 hlt);have hB:∀p∈(xs.zip ys).drop (bg xs k+1),ai k p.1<0:=eE (fun j p hj hge=>by
  have h1:=eQ hj;have hjl:=(FO.1 h1).1;have:=List.pairwise_iff_getElem.1 hsk (bg xs k) j hlt hjl (by omega);rw [FP hlt]at hx;rw [FP hjl]at h1;rw [Option.some.inj hx,Option.some.inj h1]at this;refine jN ?_ this;rw [cW];omega)
 refine⟨?_,?_⟩
 ·rw [tl _ _ _ hl]
  conv=>rhs;rw [e1]
  rw [pI hA hB];have:cY [(x,y)] k = []:=by simp [cY,hx0]
  rw [this,List.append_nil]
 ·unfold cL
  exact List.any_eq_true.2 ⟨_,FQ hz,by simp [hx0]⟩
theorem qT {xs:List Val}{ys:List VT}{k:Val}(hl:ys.length=xs.length)(hs:bh (xs.zip ys))(h:dW xs k=false):cY (xs.zip ys) k=xs.zip ys∧cL (xs.zip ys) k=false:=by
 have h2:=(jx (v:=RowT.none) hl hs h).2;refine⟨lk (fun x hx e=>?_),h2⟩;unfold cL at h2;have:=List.any_eq_false.1 h2 x hx;simp [e]at this
theorem vq {T:TM}{d i:Nat}{m mk:NodeM}{A Bs:List Kid}{c1:Kid}{ctx:List Nat}(hi:T.nodes[i]?=some m)(hl:m.leaf=false)(hv:m.vals = [])(hk:m.kids=(A++c1::Bs).map Kid.id)(hlen:(A++c1::Bs).length=m.keys.length+1)
  (hA:∀c∈A++Bs,Rep T.nodes d c.id c.L c.ids∧Fit T.nodes c.id) (h1:Rep T.nodes d c1.id c1.L c1.ids) (hmk:T.nodes[c1.id]?=some mk) (hz:mk.size=1) (hse:Seps m.keys (A++c1::Bs)) (hsk:cJ m.keys) (hsL:bh ((A++c1::Bs).flatMap Kid.L))
  (hp:((i::(A++c1::Bs).flatMap Kid.ids)++ctx++T.free).Perm (List.range T.nodes.length)) (hm4:m.size≤4) (hm2:2≤m.size) (hbig:T.nodes.length≤1000000) :
  ∃T' n,qZ T T' i A.length∧Done T T' d i ((A++c1::Bs).flatMap Kid.L) ctx n∧(n=m.size∨n+1=m.size):=by
 have hms:m.size=(A++c1::Bs).length:=by unfold NodeM.size;rw [hl,hk,FZ];rfl
 have hkl:m.kids.length≤1000:=by rw [hk,FZ];omega
 rcases List.eq_nil_or_concat A with rfl|⟨A',cl,rfl⟩
 ·cases Bs with
  | nil=>rw [hms]at hm2;simp at hm2
  | cons cr Bs =>
   obtain⟨hr,mb,hmb,hb2,hb4⟩:=hA cr (by simp);have two:Two T d i m [] c1 cr Bs ctx:=⟨hi,hl,hv,hk,hlen,fun c hc=>hA c (by simp at hc ⊢;exact .inr hc),h1,hr,hse,hsk,hp⟩;have hs2:bh (c1.L++cr.L):=by
    simp only [List.nil_append,F1]at hsL;rw [←FU]at hsL;exact(List.pairwise_append.1 hsL).1
   have kb:m.kids[1]?=some cr.id:=two.kx.2;by_cases hb:2<mb.size
   ·obtain⟨T',ho,hd⟩:=pW two hmk hmb hz ⟨by omega,hb4⟩ hs2 hkl
    exact⟨T',m.size,fun w l ha=>qd hi hkl kb hmb hb (ho _ _ _) ha,hd,.inl rfl⟩
   ·obtain⟨T',ho,hd⟩:=oO two hmk hmb (by omega) hkl hbig
    exact⟨T',m.size-1,fun w l ha=>ri hi hkl kb hmb (by omega) (ho _ _ _) ha,hd,.inr (by omega)⟩
 ·rw [List.concat_eq_append]at *
  have e1:(A' ++ [cl])++c1::Bs=A'++cl::c1::Bs:=by simp
  have eA:(A' ++ [cl]).length=A'.length+1:=by simp
  obtain⟨hr,ma,hma,ha2,ha4⟩:=hA cl (by simp);have two:Two T d i m A' cl c1 Bs ctx:=⟨hi,hl,hv,by rw [hk,e1],by rw [←e1];exact hlen,fun c hc=>hA c (by simp at hc ⊢;rcases hc with h|h;exact .inl h;exact .inr (.inr h)),hr,h1,by rw [←e1];exact hse,hsk,by rw [←e1];exact hp⟩;have hs1:bh (cl.L++c1.L):=by
   rw [e1,FT,F1,F1,←FU cl.L]at hsL;exact(List.pairwise_append.1 (List.pairwise_append.1 hsL).2.1).1
  have ka:m.kids[A'.length]?=some cl.id:=two.kx.1;by_cases ha:2<ma.size
  ·obtain⟨T',ho,hd⟩:=op_left two hma hmk ⟨by omega,ha4⟩ hz hs1 hkl
   exact⟨T',m.size,fun w l hh=>by rw [eA];exact tJ hi hkl ka hma ha (ho _ _ _) hh,by rw [e1];exact hd,.inl rfl⟩
  ·cases Bs with
   | nil =>
    obtain⟨T',ho,hd⟩:=oO two hma hmk (by omega) hkl hbig;exact⟨T',m.size-1,fun w l hh=>by rw [eA];exact mQ hi hkl ka hma (by omega) (by rw [hk];simp) (ho _ _ _) hh,by rw [e1];exact hd,.inr (by omega)⟩
   | cons cr Bs =>
    obtain⟨hr2,mb,hmb,hb2,hb4⟩:=hA cr (by simp);have two2:Two T d i m (A' ++ [cl]) c1 cr Bs ctx:=⟨hi,hl,hv,hk,hlen,fun c hc=>hA c (by simp at hc ⊢;rcases hc with h|h|h;exact .inl h;exact .inr (.inl h);exact .inr (.inr (.inr h))),h1,hr2,hse,hsk,hp⟩;have hs2:bh (c1.L++cr.L):=by
     rw [FT,F1,F1,←FU c1.L]at hsL;exact(List.pairwise_append.1 (List.pairwise_append.1 hsL).2.1).1
    have kb:m.kids[A'.length+2]?=some cr.id:=by have:=two2.kx.2;rw [eA]at this;exact this
    by_cases hb:2<mb.size
    ·obtain⟨T',ho,hd⟩:=pW two2 hmk hmb hz ⟨by omega,hb4⟩ hs2 hkl
     rw [eA]at ho;exact⟨T',m.size,fun w l hh=>by rw [eA];exact qz hi hkl ka hma (by omega) kb hmb hb (ho _ _ _) hh,hd,.inl rfl⟩
    ·obtain⟨T',ho,hd⟩:=oO two hma hmk (by omega) hkl hbig
     exact⟨T',m.size-1,fun w l hh=>by rw [eA];exact rP hi hkl ka hma (by omega) kb hmb (by omega) (ho _ _ _) hh,by rw [e1];exact hd,.inr (by omega)⟩
theorem mC {k:Val}:∀(d:Nat) (T:TM) (i:Nat) (L:PL) (ids ctx:List Nat),Rep T.nodes d i L ids→(ids++ctx++T.free).Perm (List.range T.nodes.length)→bh L→T.nodes.length≤1000000→(∀m,T.nodes[i]?=some m→m.size≤4∧(m.leaf=false→2≤m.size)) →
  ∃T' ids' m m',TM.RemR k T i T' (cL L k)∧Rep T'.nodes d i (cY L k) ids'∧(ids'++ctx++T'.free).Perm (List.range T'.nodes.length)∧(∀x∈ctx,T'.nodes[x]?=T.nodes[x]?)∧T.nodes[i]?=some m∧T'.nodes[i]?=some m'∧m'.leaf=m.leaf∧m.size≤m'.size+1∧m'.size≤m.size∧T'.nodes.length=T.nodes.length∧T'.k=T.k∧(cL L k=false→T'=T)
 | 0,T,i,L,ids,ctx,⟨m,hm,h1,h2,h3,h4,h5⟩,hp,hs,hbig,hz=>by
  have hm4:=(hz m hm).1;have hkl:m.keys.length≤4:=by unfold NodeM.size at hm4;rw [h1,if_pos rfl]at hm4;exact hm4
  have hlt:=(FO.1 hm).1;have hnd:(ids++ctx++T.free).Nodup:=hp.nodup_iff.2 List.nodup_range;have hni:∀x∈ctx,i≠x:=fun x hx e=>(List.nodup_append.1 (List.nodup_append.1 hnd).1).2.2 i (by rw [h5];simp) x hx e;rw [h4]at hs;cases hb:dW m.keys k
  ·obtain⟨e1,e2⟩:=qT h3 hs hb
   rw [h4,e1,e2];exact⟨T,ids,m,m,TM.RemR.absent hm h1 (by omega) hb,⟨m,hm,h1,h2,h3,rfl,h5⟩,hp,fun _ _=>rfl,hm,hm,rfl,by omega,Gn _,rfl,rfl,fun _=>rfl⟩
  ·obtain⟨e1,e2⟩:=vz h3 hs hb
   have hbl:=lC hb;have d1:=da m.keys _ hbl;have d2:=da m.vals (bg m.keys k) (by omega);rw [h4,e2];refine⟨{ T with nodes:=T.nodes.set i { m with keys:=aR m.keys (bg m.keys k),vals:=aR m.vals (bg m.keys k) } },ids,m,{ m with keys:=aR m.keys (bg m.keys k),vals:=aR m.vals (bg m.keys k) },TM.RemR.found hm h1 (by omega) h3 hb,⟨{ m with keys:=aR m.keys (bg m.keys k),vals:=aR m.vals (bg m.keys k) },?_,h1,h2,by dsimp only;omega,e1.symm,h5⟩,?_,?_,hm,?_,rfl,?_,?_,?_,rfl,fun h=>by cases h⟩
   ·dsimp only;rw [FX hlt]
   ·dsimp only;rw [FV];exact hp
   ·intro x hx;dsimp only;rw [F8 (hni x hx)]
   ·dsimp only;rw [FX hlt]
   ·unfold NodeM.size;dsimp only;rw [h1];simp only [if_true];omega
   ·unfold NodeM.size;dsimp only;rw [h1];simp only [if_true];omega
   ·dsimp only;rw [FV]
 | d+1,T,i,L,ids,ctx,⟨m,hm,h1,h2,cs,h3,h4,h5,h6,h7,h8,h9⟩,hp,hs,hbig,hz=>by
  obtain⟨A,c,Bs,hcs,hAl,hA,hB,hpk⟩:=mv k h4 h6 h7;subst hcs;obtain⟨hm4,hm2⟩:=hz m hm;have hm2:=hm2 h1;have hkids:m.kids.length≤4:=by unfold NodeM.size at hm4;rw [h1]at hm4;simpa using hm4
  have hkl:m.keys.length≤3:=by rw [h3,FZ]at hkids;omega
  have eL:L=A.flatMap Kid.L++c.L++Bs.flatMap Kid.L:=by rw [h8];simp
  obtain⟨hcr,mk0,hmk0,hf1,hf2⟩:=h5 c (by simp);have hp1:(c.ids++(i::A.flatMap Kid.ids++Bs.flatMap Kid.ids++ctx)++T.free).Perm (List.range T.nodes.length):=by
   refine List.Perm.trans ?_ hp;rw [h9,List.perm_iff_count];intro a;simp only [FT,F1,List.cons_append,List.count_append,List.count_cons,FU];omega
  rw [eL]at hs;obtain⟨T1,ids1,mk,mk1,g1,g2,g3,g4,g5,g6,g7,g8,g9,g10,g11,g12⟩:=mC (k:=k) d T c.id c.L c.ids (i::A.flatMap Kid.ids++Bs.flatMap Kid.ids++ctx) hcr hp1 (gO hs) hbig (fun m' hm'=>by rw [hmk0]at hm';cases hm';exact⟨hf2,fun _=>hf1⟩);rw [hmk0]at g5;cases g5;have hi1:T1.nodes[i]?=some m:=by rw [g4 i (by simp)];exact hm
  have hkid:m.kids[bu m.keys k]?=some c.id:=by rw [h3,←hAl,Gg,Gb (Gn _),Nat.sub_self];rfl
  have eI:cY L k=(A++⟨c.id,cY c.L k,ids1⟩::Bs).flatMap Kid.L:=by rw [eL,pI hA hB];simp
  have eH:cL L k=cL c.L k:=by rw [eL,jS hA hB]
  have hse:Seps m.keys (A++⟨c.id,cY c.L k,ids1⟩::Bs):=h6.swap (p:=(k,RowT.none)) (fun x hx=>.inr (uZ hx)) hpk;have hoth:∀c'∈A++Bs,Rep T1.nodes d c'.id c'.L c'.ids∧Fit T1.nodes c'.id:=fun c' hc'=>by
   have hsub:∀x∈c'.ids,T1.nodes[x]?=T.nodes[x]?:=fun x hx=>g4 x (by
    rcases F2.1 hc' with h|h
    ·have:x∈A.flatMap Kid.ids:=Gi.2 ⟨c',h,hx⟩
     simp only [List.cons_append,Gl,F2];exact .inr (.inl (.inl this))
    ·have:x∈Bs.flatMap Kid.ids:=Gi.2 ⟨c',h,hx⟩
     simp only [List.cons_append,Gl,F2];exact .inr (.inl (.inr this)))
   obtain⟨hr',hf'⟩:=h5 c' (by rcases F2.1 hc' with h|h<;>simp [h]);exact⟨hr'.frame hsub,hf'.frame (hsub _ hr'.self)⟩
  have hlen':(A++⟨c.id,cY c.L k,ids1⟩::Bs).length=m.keys.length+1:=by rw [←h4];simp
  have hmap':m.kids=(A++⟨c.id,cY c.L k,ids1⟩::Bs).map Kid.id:=by rw [h3];simp
  have hp3:((i::(A++⟨c.id,cY c.L k,ids1⟩::Bs).flatMap Kid.ids)++ctx++T1.free).Perm (List.range T1.nodes.length):=by
   refine List.Perm.trans ?_ g3;rw [List.perm_iff_count];intro a;simp only [FT,F1,List.cons_append,List.count_append,List.count_cons,FU];omega
  by_cases hz1:2≤mk1.size
  ·refine⟨T1,i::(A++⟨c.id,cY c.L k,ids1⟩::Bs).flatMap Kid.ids,m,m,?_,⟨m,hi1,h1,h2,A++⟨c.id,cY c.L k,ids1⟩::Bs,hmap',hlen',?_,hse,h7,eI,rfl⟩,hp3,fun x hx=>g4 x (by simp [hx]),hm,hi1,rfl,by omega,Gn _,g10,g11,fun h=>g12 (by rw [←eH];exact h)⟩
   ·rw [eH];exact TM.RemR.inner hm h1 (by omega) hkid g1 g6 hz1
   ·intro c' hc'
    rcases F2.1 hc' with h|h
    ·exact hoth c' (F2.2 (.inl h))
    ·rcases Gl.1 h with rfl|h
     ·exact⟨g2,mk1,g6,hz1,by omega⟩
     ·exact hoth c' (F2.2 (.inr h))
  ·have hsL:bh ((A++⟨c.id,cY c.L k,ids1⟩::Bs).flatMap Kid.L):=by rw [←eI,eL];exact iM hs
   obtain⟨T3,n,q1,q2,q3⟩:=vq (c1:=⟨c.id,cY c.L k,ids1⟩) hi1 h1 h2 hmap' hlen' hoth g2 g6 (by omega) hse h7 hsL hp3 hm4 hm2 (by omega);obtain⟨ids3,r1,r2⟩:=q2.rep;obtain⟨m3,r3,r4,r5⟩:=q2.node;refine⟨T3,ids3,m,m3,?_,by rw [eI];exact r1,r2,fun x hx=>(q2.ctx x hx).trans (g4 x (by simp [hx])),hm,r3,by rw [r4,h1],by omega,by omega,by rw [q2.len,g10],by rw [q2.k,g11],fun h=>absurd hf1 (by have e:=g12 (by rw [←eH];exact h);rw [e,hmk0]at g6;cases g6;exact hz1)⟩;rw [eH];exact TM.RemR.mended hm h1 (by omega) hkid g1 g6 (by omega) (by rw [←hAl];exact q1)
theorem hasK_gt {L:PL}{k:Val}(h:∀y∈L,ai k y.1<0):cL L k=false:=by
 unfold cL;refine List.any_eq_false.2 (fun y hy=>?_);have:=(eN y.1 k).2 (h y hy);simp;omega
theorem qo {k:Val}:∀ {L:PL},bh L→(cY L k).length+(if cL L k then 1 else 0)=L.length
 | [],_=>by simp [cY,cL]
 | x::L,hs=>by
  have ih:=qo (k:=k) (List.pairwise_cons.1 hs).2;by_cases h:ai x.1 k=0
  ·have hg:∀y∈L,ai k y.1<0:=fun y hy=>rA hs (by omega) y hy
   have e1:cY (x::L) k=cY L k:=by unfold cY;rw [List.filter_cons_of_neg (by simp [h])]
   have e2:cL (x::L) k=true:=by simp [cL,h]
   rw [hasK_gt hg]at ih;rw [e1,e2,List.length_cons];simp at ih ⊢;omega
  ·have e1:cY (x::L) k=x::cY L k:=by unfold cY;rw [List.filter_cons_of_pos (by simp [h])]
   have e2:cL (x::L) k=cL L k:=by simp [cL,h]
   rw [e1,e2,List.length_cons,List.length_cons];omega
theorem pU {L:PL}{k:Val}(h:cL L k=false):cY L k=L:=lk (fun x hx e=>by
 unfold cL at h;have:=List.any_eq_false.1 h x hx;simp [e]at this)
def pt (L:PL)(k:Val):PL:=if am k then cY L k else L
def uA (L:PL)(k:Val):Bool:=am k&&cL L k
theorem tM {B w:World}{D:PH}{t n:Nat}{T:TM}{L:PL}{l:List HP}(k:Val)(hG:Good T L)(hS:Small T L n)(hn:n≤500)(h:TreeA B D w t T l) :
  Calls Tryz.prog 91 #[.pointer (some ⟨t,0,none⟩),k.v] w fun e w'=>∃T',e = .returned (.bool (uA L k))∧TreeA B D w' t T' l∧Next T T' L (pt L k):=by
 have hk0:0≤T.k.depth:=by rcases hG.rep with ⟨_,_,h,_⟩|⟨r,d,ids,m,_,h,_⟩<;>omega
 obtain⟨b1,b2,b3⟩:=hS.bound hn;have hlenD:=qo (k:=k) hG.sorted;have hsD:=iM (k:=k) hG.sorted;have hrD:=rY (k:=k) hG.right;have same:pt L k=L→Next T T L (pt L k):=fun e=>by rw [e];exact⟨hG,by omega,by omega,by omega,.inl rfl,Gn _⟩
 rcases hG.rep with ⟨hr0,rfl,hd0,hp⟩|⟨r,d,ids,m,hroot,hdep,hR,hp,hm,hm1,hm4⟩
 ·refine(qD (k:=k) (h.nil_of hr0)).mono ?_
  rintro e w' ⟨rfl,hk⟩;exact⟨T,by unfold uA cL;simp,h.kept hk,same (by unfold pt cY;split<;>rfl)⟩
 ·cases hr:am k
  ·refine(nL (k:=k) (.inl hr) hroot h).mono ?_
   rintro e w' ⟨rfl,ha⟩;exact⟨T,by unfold uA;rw [hr];rfl,ha,same (by unfold pt;rw [hr];rfl)⟩
  ·have eL:pt L k=cY L k:=by unfold pt;rw [hr];rfl
   have eB:uA L k=cL L k:=by unfold uA;rw [hr];rfl
   obtain⟨T1,ids1,m0,m1,g1,g2,g3,g4,g5,g6,g7,g8,g9,g10,g11,g12⟩:=mC (k:=k) d T r L ids [] hR (by simpa using hp) hG.sorted (by omega) (fun m' hm'=>by rw [hm]at hm';cases hm';exact⟨hm4,fun hl=>by rw [hl]at hm1;simpa using hm1⟩);rw [hm]at g5;cases g5;simp only [List.append_nil]at g3;rw [eL,eB];cases hh:cL L k
   ·rw [hh]at g1
    obtain rfl:=g12 hh;refine(nL (k:=k) (.inr ⟨hr,iR g1⟩) hroot h).mono ?_;rintro e w' ⟨rfl,ha⟩;refine⟨T1,rfl,ha,?_⟩;rw [←eL];exact same (by rw [eL];exact pU hh)
   ·rw [hh]at g1 hlenD
    simp only [if_true]at hlenD;have hfit:T.k.fit:=by have:=hG.many;exact⟨by omega,by omega,by omega,by omega⟩
    have hfl:T1.free.length≤T1.nodes.length:=by have:=g3.length_eq;simp at this;omega
    have hmany:=hG.many;have hrm:r∈ids1:=g2.self;have hrlt:r<T1.nodes.length:=(FO.1 g6).1;have finish:((m1.leaf=true∧T.k.many≠1)∨(m1.leaf=false∧m1.kids.length≠1))→(if m1.leaf then 1 else 2)≤m1.size→Calls Tryz.prog 91 #[.pointer (some ⟨t,0,none⟩),k.v] w fun e w'=>∃T',e = .returned (.bool true)∧TreeA B D w' t T' l∧Next T T' L (cY L k):=fun hz hsz=>by
     refine(pH hr (iR g1) hroot g11 hfit g6 (by omega) (by omega) hz h).mono ?_;rintro e w' ⟨rfl,ha⟩;refine⟨_,rfl,ha,⟨hsD,hrD,?_,.inr ⟨r,d,ids1,m1,?_,?_,g2,g3,g6,hsz,by omega⟩⟩,?_,?_,by omega,.inl g10,Nat.le_of_eq g10.symm⟩
     ·show T1.k.many-1=_;rw [g11];omega
     ·show T1.k.root=_;rw [g11];exact hroot
     ·show T1.k.depth=_;rw [g11];exact hdep
     ·show T1.k.depth≤_;rw [g11];omega
     ·show(T1.nodes.length:Int)≤_;omega
    cases d with
    | zero =>
     obtain⟨m',hm',a1,a2,a3,a4,a5⟩:=id g2;rw [g6]at hm';cases hm';have hsz1:m1.size=(cY L k).length:=by
      have:=congrArg List.length a4;rw [List.length_zip,a3]at this;unfold NodeM.size;rw [a1,if_pos rfl];omega
     by_cases h1:T.k.many=1
     ·refine(pK hr (iR g1) hroot g11 hfit g6 (by omega) (by omega) a1 h1 h).mono ?_
      rintro e w' ⟨rfl,ha⟩;have hnil:cY L k = []:=F7.1 (by omega);rw [hnil];refine⟨_,rfl,ha,⟨by simp,by intro x hx;simp at hx,?_,.inl ⟨?_,rfl,?_,?_⟩⟩,?_,?_,by simp,.inl ?_,Nat.le_of_eq ?_⟩
      ·show T1.k.many-1=_;rw [g11,h1];rfl
      ·show(-1:Int)<0;omega
      ·show T1.k.depth-1=0;rw [g11,hdep];rfl
      ·show(T1.free ++ [r]).Perm (List.range (T1.nodes.set r (aS false)).length)
       rw [FV];rw [a5]at g3;exact(List.perm_append_singleton _ _).trans g3
      ·show T1.k.depth-1≤_;rw [g11];omega
      ·show(((T1.nodes.set r (aS false)).length:Nat):Int)≤_;rw [FV];omega
      ·show(T1.nodes.set r (aS false)).length=_;rw [FV];exact g10
      ·show _=(T1.nodes.set r (aS false)).length;rw [FV];exact g10.symm
     ·exact finish (.inl ⟨a1,h1⟩) (by rw [a1,if_pos rfl];omega)
    | succ d =>
     obtain⟨m',hm',a1,a2,cs,a3,a4,a5,a6,a7,a8,a9⟩:=id g2;rw [g6]at hm';cases hm';have hml:m.leaf=false:=by rw [←g7,a1]
     rw [hml]at hm1;have hsz:m1.size=m1.kids.length:=by unfold NodeM.size;rw [a1];rfl
     by_cases h1:m1.kids.length=1
     ·have hcs:cs.length=1:=by rw [a3,FZ]at h1;exact h1
      obtain⟨c0,rfl⟩:=List.length_eq_one_iff.1 hcs;refine(rqz hr (iR g1) hroot g11 hfit g6 (by omega) (by omega) a1 (by rw [a3];rfl) h).mono ?_;rintro e w' ⟨rfl,ha⟩;obtain⟨hc1,mc,hc2,hc3,hc4⟩:=a5 c0 (by simp);have eL2:cY L k=c0.L:=by rw [a8];simp
      have eI2:ids1=r::c0.ids:=by rw [a9];simp
      have hnd:(ids1++T1.free).Nodup:=g3.nodup_iff.2 List.nodup_range;rw [eI2]at hnd g3;have hnr:r ∉ c0.ids:=(List.nodup_cons.1 (List.nodup_append.1 hnd).1).1;have hsame:∀x∈c0.ids,(T1.nodes.set r (aS false))[x]?=T1.nodes[x]?:=fun x hx=>by rw [F8 (fun e=>hnr (by rw [e];exact hx))]
      refine⟨_,rfl,ha,⟨hsD,hrD,?_,.inr ⟨c0.id,d,c0.ids,mc,rfl,?_,?_,?_,?_,?_,hc4⟩⟩,?_,?_,by omega,.inl ?_,Nat.le_of_eq ?_⟩
      ·show T1.k.many-1=_;rw [g11];omega
      ·show T1.k.depth-1=_;rw [g11,hdep];omega
      ·show Rep (T1.nodes.set r (aS false)) d c0.id (cY L k) c0.ids
       rw [eL2];exact hc1.frame hsame
      ·show(c0.ids++(T1.free ++ [r])).Perm (List.range (T1.nodes.set r (aS false)).length)
       rw [FV];refine List.Perm.trans ?_ g3;rw [List.perm_iff_count];intro a;simp only [List.cons_append,List.count_append,List.count_cons,List.count_nil];omega
      ·show(T1.nodes.set r (aS false))[c0.id]?=some mc
       rw [hsame _ hc1.self];exact hc2
      ·split<;>omega
      ·show T1.k.depth-1≤_;rw [g11];omega
      ·show(((T1.nodes.set r (aS false)).length:Nat):Int)≤_;rw [FV];omega
      ·show(T1.nodes.set r (aS false)).length=_;rw [FV];exact g10
      ·show _=(T1.nodes.set r (aS false)).length;rw [FV];exact g10.symm
     ·exact finish (.inr ⟨a1,h1⟩) (by rw [a1];simp at hm1 ⊢;omega)
end Go.Proofs.YtdobimafhbfkhaaGreat
