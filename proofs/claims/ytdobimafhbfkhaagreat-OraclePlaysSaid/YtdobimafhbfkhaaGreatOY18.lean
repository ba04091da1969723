/- The tree as data: put below a node, and what follows. -/
import Derived.Test.YtdobimafhbfkhaaGreatOY17
import Derived.Test.YtdobimafhbfkhaaGreatOY13
import Derived.Shelf.Abstract
set_option maxHeartbeats 64000000
namespace Go.Proofs.YtdobimafhbfkhaaGreat
open Go.ChangeShapes Go.WideShapes Go.ChangeAt Go.RowKit
set_option maxRecDepth 100000
set_option linter.unusedSimpArgs false
theorem mv {keys:List Val}{cs:List Kid}(k:Val)(hlen:cs.length=keys.length+1)(hse:Seps keys cs)(hsk:cJ keys) :
  ∃A c Bs,cs=A++c::Bs∧A.length=bu keys k∧(∀x∈A.flatMap Kid.L,ai x.1 k<0)∧(∀x∈Bs.flatMap Kid.L,ai k x.1<0) ∧
   (∀j y,keys[j]?=some y→if A.length≤j then ai k y<0 else ai y k≤0):=by
 have hb:=kt keys k;have hlt:bu keys k<cs.length:=by omega
 have hAl:(cs.take (bu keys k)).length=bu keys k:=by rw [F0];omega
 have hsp:=iA k hsk;refine⟨cs.take (bu keys k),cs[bu keys k],cs.drop (bu keys k+1),?_,hAl,?_,?_,?_⟩
 ·rw [←List.drop_eq_getElem_cons hlt,Gj]
 ·intro x hx
  by_cases h0:bu keys k=0
  ·rw [h0]at hx;simp at hx
  ·obtain⟨y,hy⟩:∃y,keys[bu keys k-1]?=some y:=⟨_,FP (by omega)⟩
   have h1:=(hse _ y hy).1 x (by rw [show bu keys k-1+1=bu keys k by omega];exact hx);exact jI h1 ((hsp _ y hy).1 (by omega))
 ·intro x hx
  by_cases h0:bu keys k=keys.length
  ·rw [h0,Gk (by omega)]at hx;simp at hx
  ·obtain⟨y,hy⟩:∃y,keys[bu keys k]?=some y:=⟨_,FP (by omega)⟩
   have h1:=(hse _ y hy).2 x hx;have h2:¬ai y k≤0:=fun h=>by have:=(hsp _ y hy).2 h;omega
   exact jI ((eN _ _).1 (by omega)) h1
 ·intro j y hy
  rw [hAl];split
  ·have h2:¬ai y k≤0:=fun h=>by have:=(hsp _ y hy).2 h;omega
   exact(eN _ _).1 (by omega)
  ·exact(hsp _ y hy).1 (by omega)
theorem gO {A B C:PL}(h:bh (A++B++C)):bh B:=(List.pairwise_append.1 (List.pairwise_append.1 h).1).2.1
theorem uv {A B C:PL}(h:fW (A++B++C)):fW B:=fun x hx=>h x (by simp [hx])
theorem pn {k:Val}{v:VT}(hk:am k=true):∀(d:Nat) (T:TM) (i:Nat) (L:PL) (ids ctx:List Nat),Rep T.nodes d i L ids→(ids++ctx++T.free).Perm (List.range T.nodes.length)→bh L→fW L→T.nodes.length+d≤1000000→(∀m,T.nodes[i]?=some m→m.size≤4) →
  ∃T' ids' m m',T.PutR k v i T' (!cL L k)∧Rep T'.nodes d i (dC L k v) ids'∧(ids'++ctx++T'.free).Perm (List.range T'.nodes.length)∧(∀x∈ctx,T'.nodes[x]?=T.nodes[x]?)∧T.nodes[i]?=some m∧T'.nodes[i]?=some m'∧m'.leaf=m.leaf∧m.size≤m'.size∧m'.size≤m.size+1 ∧
   T'.nodes.length≤T.nodes.length+d∧(T'.nodes.length=T.nodes.length∨T'.free = [])
 | 0,T,i,L,ids,ctx,⟨m,hm,h1,h2,h3,h4,h5⟩,hp,hs,hr,hbig,hz=>by
  have hm4:=hz m hm;have hkl:m.keys.length≤4:=by unfold NodeM.size at hm4;rw [h1,if_pos rfl]at hm4;exact hm4
  have hlt:=(FO.1 hm).1;have hnd:(ids++ctx++T.free).Nodup:=hp.nodup_iff.2 List.nodup_range;have hni:∀x∈ctx,i≠x:=fun x hx e=>(List.nodup_append.1 (List.nodup_append.1 hnd).1).2.2 i (by rw [h5];simp) x hx e;rw [h4]at hs hr;cases hb:dW m.keys k
  ·obtain⟨e1,e2⟩:=jx (v:=v) h3 hs hb
   refine⟨{ T with nodes:=T.nodes.set i { m with keys:=aT m.keys (bg m.keys k) k,vals:=aT m.vals (bg m.keys k) v } },ids,m,{ m with keys:=aT m.keys (bg m.keys k) k,vals:=aT m.vals (bg m.keys k) v },?_,⟨{ m with keys:=aT m.keys (bg m.keys k) k,vals:=aT m.vals (bg m.keys k) v },?_,h1,h2,?_,?_,h5⟩,?_,?_,hm,?_,rfl,?_,?_,?_,?_⟩
   ·rw [h4,e2];exact TM.PutR.fresh hm h1 (by omega) h3 hb
   ·dsimp only;rw [FX hlt]
   ·dsimp only;rw [bQ,bQ,h3]
   ·dsimp only;rw [e1,h4]
   ·dsimp only;rw [FV];exact hp
   ·intro x hx;dsimp only;rw [F8 (hni x hx)]
   ·dsimp only;rw [FX hlt]
   ·unfold NodeM.size;dsimp only;rw [h1];simp [bQ]
   ·unfold NodeM.size;dsimp only;rw [h1];simp [bQ]
   ·dsimp only;rw [FV];omega
   ·exact .inl (by dsimp only;rw [FV])
  ·obtain⟨e1,e2⟩:=qW (v:=v) h3 hs hr hk hb
   refine⟨{ T with nodes:=T.nodes.set i { m with vals:=m.vals.set (bg m.keys k) v } },ids,m,{ m with vals:=m.vals.set (bg m.keys k) v },?_,⟨{ m with vals:=m.vals.set (bg m.keys k) v },?_,h1,h2,?_,?_,h5⟩,?_,?_,hm,?_,rfl,?_,?_,?_,?_⟩
   ·rw [h4,e2];exact TM.PutR.found hm h1 (by omega) h3 hb
   ·dsimp only;rw [FX hlt]
   ·dsimp only;rw [FV,h3]
   ·dsimp only;rw [e1,h4]
   ·dsimp only;rw [FV];exact hp
   ·intro x hx;dsimp only;rw [F8 (hni x hx)]
   ·dsimp only;rw [FX hlt]
   ·exact Gn _
   ·unfold NodeM.size;dsimp only;omega
   ·dsimp only;rw [FV];omega
   ·exact .inl (by dsimp only;rw [FV])
 | d+1,T,i,L,ids,ctx,⟨m,hm,h1,h2,cs,h3,h4,h5,h6,h7,h8,h9⟩,hp,hs,hr,hbig,hz=>by
  obtain⟨A,c,Bs,hcs,hAl,hA,hB,hpk⟩:=mv k h4 h6 h7;subst hcs;have hm4:=hz m hm;have hkids:m.kids.length≤4:=by unfold NodeM.size at hm4;rw [h1]at hm4;simpa using hm4
  have hkl:m.keys.length≤3:=by rw [h3,FZ]at hkids;omega
  have eL:L=A.flatMap Kid.L++c.L++Bs.flatMap Kid.L:=by rw [h8];simp
  obtain⟨hcr,mk0,hmk0,hf1,hf2⟩:=h5 c (by simp);have hp1:(c.ids++(i::A.flatMap Kid.ids++Bs.flatMap Kid.ids++ctx)++T.free).Perm (List.range T.nodes.length):=by
   refine List.Perm.trans ?_ hp;rw [h9,List.perm_iff_count];intro a;simp only [FT,F1,List.cons_append,List.count_append,List.count_cons,FU];omega
  rw [eL]at hs hr;obtain⟨T1,ids1,mk,mk1,g1,g2,g3,g4,g5,g6,g7,g8,g9,g10,g11⟩:=pn hk d T c.id c.L c.ids (i::A.flatMap Kid.ids++Bs.flatMap Kid.ids++ctx) hcr hp1 (gO hs) (uv hr) (by omega) (fun m' hm'=>by rw [hmk0]at hm';cases hm';exact hf2);rw [hmk0]at g5;cases g5;have hi1:T1.nodes[i]?=some m:=by rw [g4 i (by simp)];exact hm
  have hkid:m.kids[bu m.keys k]?=some c.id:=by rw [h3,←hAl,Gg,Gb (Gn _),Nat.sub_self];rfl
  have eI:dC L k v=(A++⟨c.id,dC c.L k v,ids1⟩::Bs).flatMap Kid.L:=by rw [eL,qU hA hB];simp
  have eH:cL L k=cL c.L k:=by rw [eL,jS hA hB]
  have hse:Seps m.keys (A++⟨c.id,dC c.L k v,ids1⟩::Bs):=h6.swap (p:=(k,v)) (fun x hx=>(pO hx).imp (fun h=>by rw [h]) (fun h=>h)) hpk;have hoth:∀c'∈A++Bs,Rep T1.nodes d c'.id c'.L c'.ids∧Fit T1.nodes c'.id:=fun c' hc'=>by
   have hsub:∀x∈c'.ids,T1.nodes[x]?=T.nodes[x]?:=fun x hx=>g4 x (by
    rcases F2.1 hc' with h|h
    ·have:x∈A.flatMap Kid.ids:=Gi.2 ⟨c',h,hx⟩
     simp only [List.cons_append,Gl,F2];exact .inr (.inl (.inl this))
    ·have:x∈Bs.flatMap Kid.ids:=Gi.2 ⟨c',h,hx⟩
     simp only [List.cons_append,Gl,F2];exact .inr (.inl (.inr this)))
   obtain⟨hr',hf'⟩:=h5 c' (by rcases F2.1 hc' with h|h<;>simp [h]);exact⟨hr'.frame hsub,hf'.frame (hsub _ hr'.self)⟩
  have hlen':(A++⟨c.id,dC c.L k v,ids1⟩::Bs).length=m.keys.length+1:=by rw [←h4];simp
  have hmap':m.kids=(A++⟨c.id,dC c.L k v,ids1⟩::Bs).map Kid.id:=by rw [h3];simp
  by_cases hz1:mk1.size≤4
  ·refine⟨T1,i::(A++⟨c.id,dC c.L k v,ids1⟩::Bs).flatMap Kid.ids,m,m,?_,⟨m,hi1,h1,h2,A++⟨c.id,dC c.L k v,ids1⟩::Bs,hmap',hlen',?_,hse,h7,eI,rfl⟩,?_,fun x hx=>g4 x (by simp [hx]),hm,hi1,rfl,Gn _,Nat.le_succ _,by omega,g11⟩
   ·rw [eH];exact TM.PutR.inner hm h1 (by omega) hkid g1 g6 hz1
   ·intro c' hc'
    rcases F2.1 hc' with h|h
    ·exact hoth c' (F2.2 (.inl h))
    ·rcases Gl.1 h with rfl|h
     ·exact⟨g2,mk1,g6,by omega,hz1⟩
     ·exact hoth c' (F2.2 (.inr h))
   ·refine List.Perm.trans ?_ g3
    rw [List.perm_iff_count];intro a;simp only [FT,F1,List.cons_append,List.count_append,List.count_cons,FU];omega
  ·have hp3:((i::(A++⟨c.id,dC c.L k v,ids1⟩::Bs).flatMap Kid.ids)++ctx++T1.free).Perm (List.range T1.nodes.length):=by
    refine List.Perm.trans ?_ g3;rw [List.perm_iff_count];intro a;simp only [FT,F1,List.cons_append,List.count_append,List.count_cons,FU];omega
   obtain⟨T3,ids3,m3,q1,q2,q3,q4,q5,q6,q7,q8,q9,_⟩:=nH (c1:=⟨c.id,dC c.L k v,ids1⟩) hi1 h1 h2 hmap' hlen' hoth g2 g6 (by omega) hse h7 (iI (gO hs)) hp3 (by omega) (by omega);refine⟨T3,ids3,m,m3,?_,by rw [eI];exact q2,q3,fun x hx=>(q4 x hx).trans (g4 x (by simp [hx])),hm,q5,by rw [q6,h1],by omega,by omega,by omega,?_⟩
   ·rw [eH];exact TM.PutR.grown hm h1 (by omega) hkid g1 g6 (by omega) (by rw [←hAl];exact q1)
   ·rcases q9 with q9|q9
    ·rcases g11 with g|g
     ·exact .inl (by omega)
     ·refine .inr ?_
      have e1:=q3.length_eq;have e2:=hp3.length_eq;have e3:=g3.length_eq;have hsf:T3.free.length≤T1.free.length:=by
       obtain⟨mi,kid,mk',sep,_,_,_,_,_,rfl⟩:=q1;unfold TM.spl TM.slot;split
       ·simp
       ·simp
      rw [g]at hsf;exact F7.1 (by simpa using hsf)
    ·exact .inr q9
theorem mY (k:Val)(v:VT):dC [] k v = [(k,v)]:=rfl
theorem insL_lt {L:PL}{x:Val×VT}{k:Val}{v:VT}(h:ai x.1 k<0):dC (x::L) k v=x::dC L k v:=by
 unfold dC;rw [List.filter_cons_of_pos (by simpa using h),List.filter_cons_of_neg (by simp;omega)]
 rfl
theorem rA {L:PL}{x:Val×VT}{k:Val}(hs:bh (x::L))(h:¬ai x.1 k<0):∀y∈L,ai k y.1<0:=fun y hy=>by
 have h1:=(List.pairwise_cons.1 hs).1 y hy;have h2:ai k x.1≤0:=by rw [cW];omega
 exact jN h2 h1
theorem insL_ge {L:PL}{x:Val×VT}{k:Val}{v:VT}(hs:bh (x::L))(h:¬ai x.1 k<0):dC (x::L) k v=if ai x.1 k=0 then (k,v)::L else (k,v)::x::L:=by
 have hL:=rA hs h;split
 ·rename_i h0
  exact lz (A:=[]) (M:=[x]) (Bs:=L) (by simp) (by intro y hy;simp at hy;subst hy;exact h0) hL
 ·rename_i h0
  exact lz (A:=[]) (M:=[]) (Bs:=x::L) (by simp) (by simp) (fun y hy=>by
   rcases Gl.1 hy with rfl|hy
   ·exact(eN _ _).1 (by omega)
   ·exact hL y hy)
theorem mT {k:Val}{v:VT}:∀ {L:PL},bh L→(dC L k v).length=L.length+(if cL L k then 0 else 1)
 | [],_=>by simp [mY,cL]
 | x::L,hs=>by
  by_cases h:ai x.1 k<0
  ·rw [insL_lt h,List.length_cons,mT (List.pairwise_cons.1 hs).2]
   have:cL (x::L) k=cL L k:=by simp [cL];omega
   rw [this,List.length_cons];omega
  ·rw [insL_ge hs h]
   split
   ·rename_i h0
    have:cL (x::L) k=true:=by simp [cL,h0]
    rw [this];simp
   ·rename_i h0
    have:cL (x::L) k=false:=by
     unfold cL;refine List.any_eq_false.2 (fun y hy=>?_);rcases Gl.1 hy with rfl|hy
     ·simpa using h0
     ·have:=(eN y.1 k).2 (rA hs h y hy)
      simp;omega
    rw [this];simp
structure Good (T:TM)(L:PL):Prop where
 sorted:bh L
 right:fW L
 many:T.k.many=(L.length:Int)
 rep:(T.k.root<0∧L = []∧T.k.depth=0∧T.free.Perm (List.range T.nodes.length)) ∨
  ∃(r d:Nat) (ids:List Nat) (m:NodeM),T.k.root=(r:Int)∧T.k.depth=(d:Int)+1∧Rep T.nodes d r L ids∧(ids++T.free).Perm (List.range T.nodes.length)∧T.nodes[r]?=some m∧(if m.leaf then 1 else 2)≤m.size∧m.size≤4
structure Small (T:TM)(L:PL)(n:Nat):Prop where
 depth:T.k.depth≤(n:Int)
 nodes:T.nodes.length≤n*(n+3)
 len:L.length≤n
def uy (L:PL)(k:Val)(v:VT):PL:=if am k then dC L k v else L
def putB (L:PL)(k:Val):Bool:=am k && !cL L k
theorem rj (n:Nat):n*(n+3)+n+1≤(n+1)*(n+1+3):=by
 have:(n+1)*(n+1+3)=n*(n+3)+2*n+4:=by simp only [Nat.add_mul,Nat.mul_add];omega
 omega
theorem Small.bound {T:TM}{L:PL}{n:Nat}(h:Small T L n)(hn:n≤500):T.nodes.length≤251500∧T.k.depth≤500∧L.length≤500:=by
 have h1:=h.nodes;have h2:=h.depth;have h3:=h.len;have h4:n*(n+3)≤500*503:=Nat.mul_le_mul (by omega) (by omega);omega
theorem jB {a b c:Nat}{f g:List Nat}(h1:b=a∨f = [])(h2:c=b∨g = [])(h3:g.length≤f.length):c=a∨g = []:=by
 rcases h2 with h2|h2
 ·rcases h1 with h1|h1
  ·exact .inl (by omega)
  ·rw [h1]at h3;exact .inr (F7.1 (by simpa using h3))
 ·exact .inr h2
theorem ot (T:TM)(b:Bool):(T.slot b).2.free.length≤T.free.length:=by unfold TM.slot;split<;>simp
theorem TM.Split.free {T T':TM}{i c:Nat}(h:T.Split i c T'):T'.free.length≤T.free.length:=by
 obtain⟨mi,kid,mk',sep,_,_,_,_,_,rfl⟩:=h;exact ot T _
theorem kB (T:TM)(b:Bool):T.nodes.length≤(T.slot b).2.nodes.length:=by unfold TM.slot;split<;>simp
theorem TM.Split.grow {T T':TM}{i c:Nat}(h:T.Split i c T'):T.nodes.length≤T'.nodes.length:=by
 obtain⟨mi,kid,mk',sep,_,_,_,_,_,rfl⟩:=h;refine Gq (kB T mk'.leaf) ?_;simp [TM.spl]
theorem TM.PutR.grow {k:Val}{v:VT}{T T':TM}{i:Nat}{fr:Bool}(h:T.PutR k v i T' fr):T.nodes.length≤T'.nodes.length:=by
 induction h with
 | found=>simp
 | fresh=>simp
 | inner _ _ _ _ _ _ _ ih=>exact ih
 | grown _ _ _ _ _ _ _ hs ih=>exact Gq ih hs.grow
theorem tQ (T:TM)(b:Bool)(h:∀x,T.free.getLast?=some x→x<T.nodes.length):(T.slot b).2.nodes[(T.slot b).1]?=some (aS b):=by
 unfold TM.slot;split
 ·rename_i x hx
  dsimp only;rw [FX (h x hx)]
 ·simp
structure Next (T T':TM)(L L':PL):Prop where
 good:Good T' L'
 depth:T'.k.depth≤T.k.depth+1
 nodes:(T'.nodes.length:Int)≤T.nodes.length+T.k.depth+1
 len:L'.length≤L.length+1
 room:T'.nodes.length=T.nodes.length∨T'.free = []
 grow:T.nodes.length≤T'.nodes.length
theorem Next.small {T T':TM}{L L':PL}{n:Nat}(h:Next T T' L L')(hs:Small T L n):Small T' L' (n+1):=by
 have h1:=hs.depth;have h2:=hs.nodes;have h3:=hs.len;have h4:=h.depth;have h5:=h.nodes;have h6:=h.len;have h7:=rj n;exact⟨by omega,by omega,by omega⟩
theorem Put_ok {B w : World} {D : PH} {t n : Nat} {T : TM} {L : PL} {l : List HP} (k : Val) (v : VT) (hG : Good T L) (hS : Small T L n) (hn : n ≤ 500) (h : TreeA B D w t T l) :
    Calls Tryz.prog 92 #[.pointer (some ⟨t, 0, none⟩), k.v, v.v] w fun e w' => ∃ T', e = .returned (.bool (putB L k)) ∧ TreeA B D w' t T' l ∧ Next T T' L (uy L k v) := by
  have hk0 : 0 ≤ T.k.depth := by rcases hG.rep with ⟨_, _, h, _⟩ | ⟨r, d, ids, m, _, h, _⟩ <;> omega
  obtain ⟨b1, b2, b3⟩ := hS.bound hn
  cases hr : am k
  · refine (Put_bad hr (.inr ⟨t, rfl⟩)).mono ?_
    rintro e w' ⟨rfl, hk⟩
    refine ⟨T, by unfold putB; rw [hr]; rfl, h.kept hk, ?_⟩
    unfold uy
    rw [hr]
    exact ⟨hG, by omega, by omega, by simp, .inl rfl, Gn _⟩
  · have eL : uy L k v = dC L k v := by unfold uy; rw [hr]; rfl
    have eB : putB L k = !cL L k := by unfold putB; rw [hr]; rfl
    rw [eL, eB]
    have hlenI := mT (k := k) (v := v) hG.sorted
    have hsI := iI (k := k) (v := v) hG.sorted
    have hrI := rS (v := v) hr hG.right
    have hmore : ∀ fr : Bool, fr = (!cL L k) → T.k.many + (if fr then 1 else 0) = ((dC L k v).length : Int) := by
      intro fr e
      rw [hlenI, hG.many, e]
      cases cL L k <;> simp
    have hfit : T.k.fit := by
      have := hG.many
      exact ⟨by omega, by omega, by omega, by omega⟩
    have mm : ∀ (T1 : TM) (fr : Bool), (T1.more fr).k.root = T1.k.root ∧ (T1.more fr).k.depth = T1.k.depth ∧ (T1.more fr).nodes = T1.nodes ∧ (T1.more fr).free = T1.free ∧ (T1.more fr).k.many = T1.k.many + (if fr then 1 else 0) := by
      intro T1 fr; cases fr <;> simp [TM.more]
    rcases hG.rep with ⟨hr0, rfl, hd0, hp⟩ | ⟨r, d, ids, m, hroot, hdep, hR, hp, hm, hm1, hm4⟩
    · -- the first key
      obtain ⟨q1, q2, q3, q4, q5, q6, q7, q8, q9⟩ := lO (T := T) (b := true) (xs := []) (by simpa using hp)
      have hsl : T.maySlot := ⟨fun x hx => (q6 x hx).1, by omega, by omega⟩
      have hnode := tQ T true hsl.1
      obtain ⟨T1, ids1, m0, m1, g1, g2, g3, g4, g5, g6, g7, g8, g9, g10, g11⟩ := pn (v := v) hr 0 T.first (T.slot true).1 [] [(T.slot true).1] [] ⟨aS true, hnode, rfl, rfl, rfl, rfl, rfl⟩ (by simpa [TM.first] using q1) (by simp) (by intro x hx; simp at hx) (by simp [TM.first]; omega) (fun m hm => by
        have hm' : (T.slot true).2.nodes[(T.slot true).1]? = some m := hm
        rw [hnode] at hm'; cases hm'; simp [NodeM.size, aS])
      have hm0 : m0 = aS true := by
        have hm' : (T.slot true).2.nodes[(T.slot true).1]? = some m0 := g5
        rw [hnode] at hm'; cases hm'; rfl
      have hz1 : m1.size ≤ 4 := by have : m0.size = 0 := by rw [hm0]; rfl
                                   omega
      refine (Put_new hr hr0 hsl hfit g1 g6 hz1 h).mono ?_
      rintro e w' ⟨rfl, ha⟩
      obtain ⟨e1, e2, e3, e4, e5⟩ := mm T1 (!cL ([] : PL) k)
      have hk1 : T1.k = { T.k with root := ((T.slot true).1 : Int), depth := 1 } := g1.keep
      have hfn : T.first.nodes = (T.slot true).2.nodes := rfl
      have hff : T.first.free = (T.slot true).2.free := rfl
      have hlf : m1.leaf = true := by rw [g7, hm0]; rfl
      refine ⟨_, rfl, ha, ⟨hsI, hrI, ?_, .inr ⟨(T.slot true).1, 0, ids1, m1, ?_, ?_, ?_, ?_, ?_, ?_, hz1⟩⟩, ?_, ?_, by simp [mY], ?_, ?_⟩
      · rw [e5, hk1]; exact hmore _ rfl
      · rw [e1, hk1]
      · rw [e2, hk1]; rfl
      · rw [e3]; exact g2
      · rw [e3, e4]; simpa using g3
      · rw [e3]; exact g6
      · rw [hlf, if_pos rfl]
        obtain ⟨m', hm', _, _, h3, h4, _⟩ := g2
        rw [g6] at hm'; cases hm'
        have := congrArg List.length h4
        rw [mY, List.length_zip, h3] at this
        unfold NodeM.size
        rw [hlf, if_pos rfl]
        simp at this; omega
      · rw [e2, hk1]; show (1 : Int) ≤ _; omega
      · rw [e3]; rw [hfn] at g10; omega
      · rw [e3, e4]
        refine jB q5 (by rw [hfn] at g11; exact g11) ?_
        have := g3.length_eq
        have h2 := q1.length_eq
        simp at this h2
        obtain ⟨m', _, _, _, _, _, h5⟩ := g2
        rw [h5] at this
        rw [hfn] at g10
        simp at this; omega
      · rw [e3]; exact Gq (kB T true) g1.grow
    · obtain ⟨T1, ids1, m0, m1, g1, g2, g3, g4, g5, g6, g7, g8, g9, g10, g11⟩ := pn (v := v) hr d T r L ids [] hR (by simpa using hp) hG.sorted hG.right (by omega) (fun m' hm' => by rw [hm] at hm'; cases hm'; exact hm4)
      rw [hm] at g5; cases g5
      have hk1 : T1.k = T.k := g1.keep
      simp only [List.append_nil] at g3
      by_cases hz1 : m1.size ≤ 4
      · refine (tp hr hroot hfit g1 g6 hz1 h).mono ?_
        rintro e w' ⟨rfl, ha⟩
        obtain ⟨e1, e2, e3, e4, e5⟩ := mm T1 (!cL L k)
        refine ⟨_, rfl, ha, ⟨hsI, hrI, ?_, .inr ⟨r, d, ids1, m1, ?_, ?_, ?_, ?_, ?_, ?_, hz1⟩⟩, ?_, ?_, ?_, ?_, ?_⟩
        · rw [e5, hk1]; exact hmore _ rfl
        · rw [e1, hk1]; exact hroot
        · rw [e2, hk1]; exact hdep
        · rw [e3]; exact g2
        · rw [e3, e4]; exact g3
        · rw [e3]; exact g6
        · rw [g7]; omega
        · rw [e2, hk1]; omega
        · rw [e3]; omega
        · rw [hlenI]; split <;> omega
        · rw [e3, e4]; exact g11
        · rw [e3]; exact g1.grow
      · obtain ⟨q1, q2, q3, q4, q5, q6, q7, q8, q9⟩ := lO (T := T1) (b := false) (xs := ids1) g3
        have hsl : T1.maySlot := ⟨fun x hx => (q6 x hx).1, by omega, by omega⟩
        have hlt : (T1.slot false).1 < (T1.slot false).2.nodes.length := q7
        have hrm : r ∈ ids1 := g2.self
        have hne : ∀ x ∈ ids1, (T1.slot false).1 ≠ x := fun x hx e => q3 (by rw [e]; exact hx)
        have hnt : ∀ x ∈ ids1, (T1.top r).nodes[x]? = T1.nodes[x]? := fun x hx => by
          unfold TM.top; dsimp only
          rw [F8 (hne x hx)]
          exact q2 x hx
        have htop : (T1.top r).nodes[(T1.slot false).1]? = some { aS false with kids := [r] } := by
          unfold TM.top; dsimp only
          rw [FX hlt]
        have hlen2 : (T1.top r).nodes.length = (T1.slot false).2.nodes.length := by unfold TM.top; simp
        obtain ⟨T3, ids3, m3, s1, s2, s3, s4, s5, s6, s7, s8, s9, s10⟩ := nH (T := T1.top r) (d := d) (i := (T1.slot false).1) (m := { aS false with kids := [r] }) (mk := m1) (A := []) (Bs := []) (c1 := ⟨r, dC L k v, ids1⟩) (ctx := []) htop rfl rfl rfl rfl (by simp)
          (g2.frame hnt) (by rw [hnt r hrm]; exact g6) (by omega) (by intro j y hy; simp [aS] at hy) (by simp [aS]) hsI (by rw [hlen2]; simpa [TM.top] using q1) (by omega) (by simp [aS])
        refine (tk hr hroot hfit g1 g6 (by omega) hsl s1 h).mono ?_
        rintro e w' ⟨rfl, ha⟩
        obtain ⟨e1, e2, e3, e4, e5⟩ := mm (T3.high (T1.slot false).1) (!cL L k)
        have hk3 : T3.k = T.k := by rw [s10]; show (T1.slot false).2.k = _; rw [j9, hk1]
        refine ⟨_, rfl, ha, ⟨hsI, hrI, ?_, .inr ⟨(T1.slot false).1, d + 1, ids3, m3, ?_, ?_, ?_, ?_, ?_, ?_, ?_⟩⟩, ?_, ?_, ?_, ?_, ?_⟩
        · rw [e5]; show T3.k.many + _ = _; rw [hk3]; exact hmore _ rfl
        · rw [e1]; rfl
        · rw [e2]; show T3.k.depth + 1 = _; rw [hk3, hdep]; omega
        · rw [e3]; simpa [TM.high] using s2
        · rw [e3, e4]; simpa [TM.high] using s3
        · rw [e3]; exact s5
        · rw [s6, s7]; simp [NodeM.size, aS]
        · rw [s7]; simp [NodeM.size, aS]
        · rw [e2]; show T3.k.depth + 1 ≤ _; rw [hk3]; omega
        · rw [e3]; show (T3.nodes.length : Int) ≤ _; omega
        · rw [hlenI]; split <;> omega
        · rw [e3, e4]
          show T3.nodes.length = _ ∨ T3.free = []
          have f1 := ot T1 false
          have f2 : T3.free.length ≤ (T1.slot false).2.free.length := s1.free
          exact jB (jB g11 q5 f1) (by rw [← hlen2]; exact s9) f2
        · rw [e3]
          have f3 := s1.grow
          rw [hlen2] at f3
          exact Gq (Gq g1.grow (kB T1 false)) f3
end Go.Proofs.YtdobimafhbfkhaaGreat
namespace Go.Proofs.YtdobimafhbfkhaaGreat
open Go.ChangeShapes Go.WideShapes Go.ChangeAt Go.RowKit
set_option linter.unusedSimpArgs false
def cellsOf (h:PH):PH:=fun b=>match h b with|some (.cells cs t fr)=>some (.cells cs t fr)|_=>none
theorem gU (h:PH):PH.le (cellsOf h) h:=fun b o e=>by
 unfold cellsOf at e;split at e
 ·rename_i cs t fr hb;rw [hb];exact e
 ·cases e
theorem gF {h:PH}{b:Nat}{cs:Array Value}{t:TypeId}{fr:Nat×Nat}(e:h b=some (.cells cs t fr)):cellsOf h b=some (.cells cs t fr):=by unfold cellsOf;rw [e]
theorem eR {h:PH}{b:Nat}{o:Obj}(e:cellsOf h b=some o):∃cs t fr,o = .cells cs t fr:=by
 unfold cellsOf at e;split at e
 ·cases e;exact⟨_,_,_,rfl⟩
 ·cases e
theorem gE {h k:PH}(le:PH.le h k):PH.le (cellsOf h) (cellsOf k):=fun b o e=>by
 obtain⟨cs,t,fr,rfl⟩:=eR e;exact gF (le b _ (gU h b _ e))
theorem gM {h:PH}{b:Nat}(e:h b=none):cellsOf h b=none:=by unfold cellsOf;rw [e]
def ft (A:HP):Prop:=∀h,A h→A (cellsOf h)
theorem kJ (b:Nat)(cs:Array Value)(t:TypeId):ft (blk b cs t):=fun _ hA=>gF hA
theorem eX (e:TypeId)(size:Nat)(v:Value)(n:Nat)(xs:List Value):ft (aD e size v n xs):=fun _ ⟨h1,h2,h3⟩=>by
 refine⟨h1,h2,?_⟩;rcases h3 with h3|⟨g,cap,cur,h3,h4,h5⟩
 ·exact .inl h3
 ·exact .inr ⟨g,cap,cur,h3,gF h4,h5⟩
theorem Holds.inCells : ∀ {l:List HP},(∀A∈l,ft A)→∀ {h:PH},Holds l h→Holds l (cellsOf h)
 | [],_,_,_=>trivial
 | A::_,hl,_,⟨h1,h2,a,b,c,d,e⟩ =>
  ⟨cellsOf h1,cellsOf h2,fun x=>(a x).imp gM gM,gE b,gE c,hl A (Gc ..) _ d,Holds.inCells (fun B hB=>hl B (F4 _ hB)) e⟩
theorem fV {l:List HP}(hl:∀A∈l,ft A):ft (aY l):=fun _ hA=>Holds.inCells hl hA
section
variable {B w w' W W' : World} {D : PH} {l : List HP}
theorem Sat.inPool {l':List HP}(hs:Sat B D w (l++l'))(hl:∀A∈l,ft A){E:PH}(hE:PH.le (cellsOf (aB w)) E)(hW:PH.le E (aB W)):Sat W (fun _=>none) W l:=by
 obtain⟨h1,h2,a,b,c,d,e⟩:=(Holds.perm (List.perm_append_comm (l₁:=(fun h=>PH.le D h)::l) (l₂:=l')) hs.holds).part;obtain⟨k1,k2,a',b',c',d',e'⟩:=e;have:=Holds.inCells hl e';exact⟨rfl,rfl,rfl,Gn _,⟨fun _=>none,aB W,fun _=>.inl rfl,PH.le.none _,PH.le.refl _,PH.le.refl _,this.mono (((gE (c'.trans c)).trans hE).trans hW)⟩⟩
def OwB (bo:Nat)(W:World)(k:Nat):Prop:=k=bo∨∃v t,W.heap[bo]?=some (.cells #[v] t (0,0))∧v.ownBlock=some k
theorem l8 {n₀ bo:Nat}(h:bo<n₀):Owner n₀ (OwB bo) where
 stay:=fun W W' hn k x hx=>hx.imp (fun h=>h) (fun ⟨v,t,h1,h2⟩=>⟨v,t,by rw [←k.block bo (by omega) (fun h=>h)];exact h1,h2⟩)
 put:=fun W l o hl x hx=>hx.imp (fun h=>h) (fun ⟨v,t,h1,h2⟩=>⟨v,t,by rw [←World.putObj_heap_other (o:=o) (show bo≠l by omega)];exact h1,h2⟩)
structure BoxRow (W:World)(bo:Nat)(tb e:TypeId)(size:Nat)(v:Value)(n:Nat)(xs:List Value):Prop where
 box:W.heap[bo]?=some (.cells #[v] tb (0,0))
 own:Proofs.YtdobimafhbfkhaaGreat.Own W e size v n xs
 apart:v.ownBlock≠some bo
variable {bo : Nat} {tb e : TypeId} {size n n' : Nat} {v v' : Value} {xs xs' : List Value}
theorem BoxRow.ow (h:BoxRow W bo tb e size v n xs){k:Nat}(hk:OwB bo W k):k=bo∨v.ownBlock=some k:=by
 rcases hk with hk|⟨v1,t,h1,h2⟩
 ·exact .inl hk
 ·rw [h.box]at h1;cases h1;exact .inr h2
theorem BoxRow.frame (h:BoxRow W bo tb e size v n xs)(hk:∀k,OwB bo W k→k<W.heap.size→W'.heap[k]?=W.heap[k]?):BoxRow W' bo tb e size v n xs :=
 ⟨by rw [hk bo (.inl rfl) (aw h.box)];exact h.box,h.own.frame (fun g hg hlt=>hk g (.inr ⟨v,tb,h.box,hg⟩) hlt),h.apart⟩
open Classical in
theorem BoxRow.sat (h:BoxRow W bo tb e size v n xs):∃D,(∀k o,D k=some o↔(¬OwB bo W k∧aB W k=some o))∧Sat W D W [blk bo #[v] tb,aD e size v n xs]:=by
 refine⟨fun k=>if OwB bo W k then none else aB W k,fun k o=>by dsimp only;split<;>simp_all,rfl,rfl,rfl,Gn _,fun k=>if OwB bo W k then none else aB W k,fun k=>if OwB bo W k then aB W k else none,fun k=>?_,fun k o hk=>?_,fun k o hk=>?_,PH.le.refl _,one bo (.cells #[v] tb),io W v,fun k=>?_,fun k o hk=>?_,fun k o hk=>?_,ik _ _,io W v,fun _=>none,fun _=>.inr rfl,PH.le.refl _,PH.le.none _,ki h.own,trivial⟩
 ·by_cases hk:OwB bo W k
  ·exact .inl (by dsimp only;rw [if_pos hk])
  ·exact .inr (by dsimp only;rw [if_neg hk])
 ·dsimp only at hk;split at hk
  ·cases hk
  ·exact hk
 ·dsimp only at hk;split at hk
  ·exact hk
  ·cases hk
 ·by_cases hk:k=bo
  ·subst hk
   refine .inr ?_;cases hu:io W v k with
   | none=>rfl
   | some o=>exact absurd (gD hu) h.apart
  ·exact .inl (by unfold one;rw [if_neg hk])
 ·have:=jZ hk
  subst this;rw [ik]at hk;cases hk;dsimp only;rw [if_pos (.inl rfl)];exact h.box
 ·have h1:=gD hk
  dsimp only;rw [if_pos (.inr ⟨v,tb,h.box,h1⟩)];exact lZ _ _ _ _ hk
theorem BoxRow.back (h:BoxRow W bo tb e size v n xs){D:PH}(hD:∀k o,D k=some o↔(¬OwB bo W k∧aB W k=some o))(hs:Sat W D W' (blk bo #[v'] tb::aD e size v' n' xs'::l)) :
  BoxRow W' bo tb e size v' n' xs'∧KpO (OwB bo) W W'∧KeepsOthers W W'∧Kept (OwB bo W) W W'∧(∀k,OwB bo W' k→OwB bo W k∨W.heap.size≤k):=by
 have hbox:W'.heap[bo]?=some (.cells #[v'] tb (0,0)):=hs.blk 0 rfl;have hown:=hs.own 1 rfl;have hle:PH.le D (aB W'):=hs.pool;have hap:v'.ownBlock≠some bo:=by
  intro hb;obtain⟨h1,h2,a,b,c,d,e0⟩:=hs.holds.swap;obtain⟨m1,m2,m3,m4,m5,m6,m7⟩:=Holds.swap e0;rcases a bo with g|g
  ·exact absurd (d.symm.trans g) (by simp)
  ·rcases m6.2.2 with ⟨q,_⟩|⟨g',cap,cur,q1,q2,_⟩
   ·rw [q]at hb;cases hb
   ·rw [q1]at hb
    have:g'=bo:=by simpa [Value.ownBlock]using hb
    subst this;have:=m4 _ _ q2;rw [g]at this;cases this
 have hBR:BoxRow W' bo tb e size v' n' xs':=⟨hbox,hown,hap⟩;have hback:∀k,OwB bo W' k→OwB bo W k∨W.heap.size≤k:=by
  intro k hk;rcases hBR.ow hk with hk|hk
  ·exact .inl (.inl hk)
  ·by_cases hlt:k<W.heap.size
   ·refine .inl (Classical.byContradiction fun hn=>?_)
    have hDk:D k=some W.heap[k]:=(hD _ _).2 ⟨hn,Array.getElem?_eq_getElem hlt⟩;obtain⟨h1,h2,a,b,c,d,e0⟩:=hs.holds;obtain⟨m1,m2,m3,m4,m5,m6,m7⟩:=Holds.swap e0;rcases m6.2.2 with ⟨q,_⟩|⟨g',cap,cur,q1,q2,_⟩
    ·rw [q]at hk;cases hk
    ·rw [q1]at hk
     have:g'=k:=by simpa [Value.ownBlock]using hk
     subst this;have h3:=d _ _ hDk;have h4:=m4 _ _ q2;rcases a g' with g|g
     ·rw [g]at h3;cases h3
     ·rw [g]at h4;cases h4
   ·exact .inr (by omega)
 refine⟨hBR,⟨hs.size,fun k cs t fr hk hn=>hle _ _ ((hD _ _).2 ⟨hn,hk⟩),hback,fun _ k hk=>?_⟩,⟨hs.size,fun k o hk hc=>?_⟩,⟨hs.os,hs.tape,hs.output,hs.size,fun k hk hn=>?_⟩,hback⟩
 ·rcases hBR.ow hk with hk|hk
  ·rw [hk];exact aw hbox
  ·exact hown.lt k hk
 ·refine hle _ _ ((hD _ _).2 ⟨fun hn=>?_,hk⟩)
  rcases h.ow hn with h1|h1
  ·subst h1;rw [h.box]at hk;cases hk;cases hc
  ·rcases h.own.2.2 with ⟨q,_⟩|⟨g',cap,cur,q1,q2,_⟩
   ·rw [q]at h1;cases h1
   ·rw [q1]at h1
    have:g'=k:=by simpa [Value.ownBlock]using h1
    subst this;rw [q2]at hk;cases hk;cases hc
 ·rw [Array.getElem?_eq_getElem hk]
  exact hle _ _ ((hD _ _).2 ⟨hn,Array.getElem?_eq_getElem hk⟩)
end
theorem room_of_none {F:Fence}(hd:F.depth=none)(k:Nat):F.room k:=fun d h=>by rw [hd]at h;cases h
theorem RoundIn.anyDepth {F:Fence}(hd:F.depth=none){m m':Nat}{P:Program}{l:Nat}{f:FuncId}{tmps:Array Value}{assign body:Code}{w:World}{R:Ending→World→Prop}
  (h:RoundIn F m P l f tmps assign body w R):RoundIn F m' P l f tmps assign body w R:=⟨h.1,fun c cs _=>h.2 c cs (Proofs.YtdobimafhbfkhaaGreat.room_of_none hd _)⟩
theorem YieldAt.anyDepth {F:Fence}(hd:F.depth=none){m:Nat}(m':Nat){P:Program}{l:Nat}{args:Array Value}{W:World}{R:Ending→World→Prop}(h:YieldAt F m P l args W R):YieldAt F m' P l args W R:=by
 obtain⟨fn,tmps,assign,body,hy,hR⟩:=h;exact⟨fn,tmps,assign,body,hy,Proofs.YtdobimafhbfkhaaGreat.RoundIn.anyDepth hd hR⟩
section
variable {w W W' : World} {bo n₀ B : Nat} {tb e : TypeId} {size n : Nat} {v v' : Value} {xs : List Value} {α : Type} {f : α → List Value} {pre : List α} {l : List HP}
theorem KpO.of_kept {Ow:World→Nat→Prop}(hO:Owner n₀ Ow)(hn:n₀≤W.heap.size)(k:Kept (fun _=>False) W W'):KpO Ow W W' where
 size:=k.size
 same:=fun b _ _ _ h _=>(k.block b (aw h) (fun h=>h)).trans h
 back:=fun b hb=>.inl (hO.stay W W' hn k b hb)
 fit:=fun hf b hb=>Nat.lt_of_lt_of_le (hf b (hO.stay W W' hn k b hb)) k.size
theorem iB (k:Kept (fun _=>False) W W')(B:Nat):KeepsFrom B W W':=⟨k.size,fun b _ _ h _=>(k.block b (aw h) (fun h=>h)).trans h⟩
theorem OwB.lt (h:BoxRow W bo tb e size v n xs){k:Nat}(hk:OwB bo W k):k<W.heap.size:=by
 rcases h.ow hk with hk|hk
 ·rw [hk];exact aw h.box
 ·exact h.own.lt k hk
theorem OwB.cells (h:BoxRow W bo tb e size v n xs){k:Nat}(hk:OwB bo W k):∃cs t fr,W.heap[k]?=some (.cells cs t fr):=by
 rcases h.ow hk with hk|hk
 ·rw [hk];exact⟨_,_,_,h.box⟩
 ·rcases h.own.2.2 with ⟨q,_⟩|⟨g',cap,cur,q1,q2,_⟩
  ·rw [q]at hk;cases hk
  ·rw [q1]at hk
   have:g'=k:=by simpa [Value.ownBlock]using hk
   subst this;exact⟨_,_,_,q2⟩
theorem OwB.same (hb:W'.heap[bo]?=W.heap[bo]?){k:Nat}(hk:OwB bo W' k):OwB bo W k:=hk.imp (fun h=>h) (fun ⟨v,t,h1,h2⟩=>⟨v,t,by rw [←hb];exact h1,h2⟩)
open Classical in
theorem BoxRow.iter (h:BoxRow W bo tb e size v n xs):∃E:PH,(∀k cs t fr,W.heap[k]?=some (.cells cs t fr)→¬OwB bo W k→E k=some (.cells cs t fr))∧∀W',Below W.heap.size W W'→ItOk W.heap.size (OwB bo) E W':=by
 refine⟨fun k=>if OwB bo W k then none else cellsOf (aB W) k,fun k cs t fr hk hn=>?_,fun W' hb=>?_⟩
 ·dsimp only;rw [if_neg hn];exact gF hk
 ·have hbo:W'.heap[bo]?=W.heap[bo]?:=hb.block bo (aw h.box)
  refine⟨fun k o hk=>?_,fun k o hk=>?_,fun k hk=>?_,hb.size⟩
  ·split at hk
   ·cases hk
   ·have:=gU _ _ _ hk
    exact(hb.block k (aw this)).trans this
  ·split at hk
   ·cases hk
   ·rename_i hn
    exact⟨eR hk,fun ho=>hn (OwB.same hbo ho)⟩
  ·exact Nat.lt_of_lt_of_le (OwB.lt h (OwB.same hbo hk)) hb.size
structure Inv (w:World)(bo:Nat)(tb e:TypeId)(size:Nat)(f:α→List Value)(pre:List α)(W:World):Prop where
 kept:Kept (fun _=>False) w W
 new:∀k,OwB bo W k→w.heap.size≤k
 row:∃v,BoxRow W bo tb e size v pre.length (pre.flatMap f)
theorem Inv.frame (h:Inv w bo tb e size f pre W)(hk:Kept (fun _=>False) W W'):Inv w bo tb e size f pre W':=by
 obtain⟨h1,h2,v,h3⟩:=h;have hb:W'.heap[bo]?=W.heap[bo]?:=hk.block bo (aw h3.box) (fun h=>h);exact⟨h1.trans hk (fun _ h=>h.elim),fun k ho=>h2 k (OwB.same hb ho),v,h3.frame (fun k _ hlt=>hk.block k hlt (fun h=>h))⟩
theorem Inv.ownFrom (hw:w.heap.size≤B)(hbo:bo<B):OwnFrom B (Inv w bo tb e size f):=by
 intro pre W W' row h hg hr;obtain⟨h1,h2,v,h3⟩:=h;have hb:W'.heap[bo]?=W.heap[bo]?:=hg.block bo (aw h3.box) (fun he=>by have:=(hr bo he.symm).1;omega);refine⟨h1.trans ⟨hg.os,hg.tape,hg.output,hg.size,fun k hk hn=>hg.block k hk hn⟩ (fun k hk=>.inr (by have:=(hr k hk.symm).1;omega)),fun k ho=>h2 k (OwB.same hb ho),v,h3.frame (fun k ho hlt=>hg.block k hlt (fun he=>?_))⟩;obtain⟨_,o,ho',hc⟩:=hr k he.symm;obtain⟨cs,t,fr,hcs⟩:=OwB.cells h3 ho;rw [hcs]at ho';cases ho';cases hc
theorem Inv.next (h:Inv w bo tb e size f pre W)(hb:BoxRow W bo tb e size v n xs){D:PH}(hD:∀k o,D k=some o↔(¬OwB bo W k∧aB W k=some o)){x:α}
  (hs:Sat W D W' (blk bo #[v'] tb::aD e size v' (pre ++ [x]).length ((pre ++ [x]).flatMap f)::l)):KeepsFrom B W W'∧KpO (OwB bo) W W'∧Inv w bo tb e size f (pre ++ [x]) W':=by
 obtain⟨a,b,c,d,g⟩:=hb.back hD hs;refine⟨c.from B,b,⟨h.kept.trans d (fun k hk=>.inr (h.new k hk)),fun k hk=>?_,v',a⟩⟩;rcases g k hk with hk|hk
 ·exact h.new k hk
 ·exact Gq h.kept.size hk
theorem Inv.start (hk:Kept (fun _=>False) w W)(hb:W.heap[bo]?=some (.cells #[.slice none 0 0] tb (0,0)))(hbo:w.heap.size≤bo):Inv w bo tb e size f [] W:=by
 refine⟨hk,fun k ho=>?_,_,hb,Own.nil _ _ _,fun h=>by cases h⟩;rcases ho with rfl|⟨v,t,h1,h2⟩
 ·exact hbo
 ·rw [hb]at h1;cases h1;cases h2
theorem Inv.done {B0:World}{D0:PH}(h:Inv w bo tb e size f pre W)(hs:Sat B0 D0 w l):∃v,W.heap[bo]?=some (.cells #[v] tb (0,0))∧Sat B0 D0 W (aD e size v pre.length (pre.flatMap f)::l):=by
 obtain⟨h1,h2,v,h3⟩:=h;exact⟨v,h3.box,hs.own_new h1 h3.own (fun g hg=>h2 g (.inr ⟨v,tb,h3.box,hg⟩))⟩
theorem i9 {F:Fence}{n:Nat}{P:Program}{B:World}{D:PH}{l:List HP}(w:World){ops:Array Oper}{rest:List Oper}{o:Oper}{a:Act}{Q:Exit→Act→World→Prop}(hgd:o.guard=none)(s x:Operand)(t:TypeId)
  (ho:o.op = .call { callee:=.builtin .append,args:=#[s,x],argTypes:=#[t,t] })
  (e:TypeId) (i:TypeInfo) (z:Value) (size bytes:Nat) (ht:P.underlying t=some (.slice e)) (hi:P.info? e=some i) (hz:i.zero=some z)
  (hsize:i.size=size) (hby:i.bytes=bytes) (hzs:z.cells.size=size)
  (v:Value) (k:Nat) (xs:List Value) (hv:a.eval s=v) (hs:Sat B D w (aD e size v k xs::l)) (xv:Value) (m:Nat) (news:List Value) (hx:a.eval x=xv) (hrd:Rd w size xv m news) (h1:∀u∈news,u.oneCell'=true)
  (h63:k+m≤maxLen) (hbytes:(k+m)*bytes≤140737488355328)
  (h:∀v' w',Sat B D w' (aD e size v' (k+m) (xs++news)::l)→v'.oneCell'=true→wpListIn F n P ops Q rest (a.put o.dst v') w'):wpListIn F n P ops Q (o::rest) a w:=by
 refine wpListIn_plain hgd fun K hK=>?_;obtain⟨v',w',hr,ho',hk,hb,_,_⟩:=jg (P:=P) w t o.type e i z size bytes ht hi hz hsize hby hzs v k xs (hs.own 0 rfl) xv m news hrd h1 h63 hbytes;unfold Oper.wpIn;refine⟨by simp [Oper.about,ho,resolve,Target.leads,Sem.run_pure],?_⟩;rw [Oper.semAt_plain F _ _ (by rw [ho];intro c hc';cases hc')];simp [execOp,ho,resolve,invoke,builtin,hv,hx,hr,Result.andThen];refine hK _ _ (h v' w' (hs.own_step hk ho' (hb.imp (fun h=>h) (fun hb g hg=>?_))) ?_)
 ·rw [hb.1]at hg
  exact Nat.le_of_eq (Option.some.inj hg)
 ·rcases ho'.2.2 with ⟨h2,_⟩|⟨g,cap,cur,h2,_⟩<;>rw [h2]<;>rfl
end
def uT {α:Type}(F:Fence)(n:Nat)(P:Program)(g:Nat)(lb:Array Value)(encs:α→Array Value)(Kp:World→World→Prop)(X:List α→α→World→World→Prop)(S Sp:List α→Prop)(w:World):Prop :=
 ∀(l:Nat) (J Jx:List α→World→Prop) (W:World),Below w.heap.size w W→OwnFrom W.heap.size J→OwnFrom W.heap.size Jx →
  (∀pre x W0 W1,J pre W0→Kept (fun _=>False) W0 W1→X pre x W0 W1→YieldAt F (n-1) P l (encs x) W1 fun e W'=>KeepsFrom W.heap.size W1 W'∧((e = .returned (.bool true)∧J (pre ++ [x]) W'∧Kp W1 W')∨(e = .returned (.bool false)∧Jx (pre ++ [x]) W'))) →
  J [] W→CallsIn F n P g (#[.func (.yield l) #[] #[]]++lb) W fun e W'=>(∃v,e = .returned v)∧((∃xs,S xs∧J xs W')∨(∃pre,Sp pre∧Jx pre W'))
structure Book (k:Nat)(r:Loop)(W:World):Prop where
 rec_:W.heap[k+1]?=some (.loop r)
 shut:W.heap[k]?=some (.deferred (some []))
section
variable {k : Nat} {r r' : Loop} {W W' : World} {row : Option Nat}
theorem Book.kept (h:Book k r W)(hk:Kept (fun _=>False) W W'):Book k r W':=⟨(hk.block _ (aw h.rec_) (fun h=>h)).trans h.rec_,(hk.block _ (aw h.shut) (fun h=>h)).trans h.shut⟩
theorem Book.abides (h:Book k r W)(hg:W.grownBy W' row)(hr:∀b,row=some b→k+2≤b):Book k r W' :=
 ⟨(hg.block _ (aw h.rec_) (fun e=>by have:=hr _ e.symm;omega)).trans h.rec_,(hg.block _ (aw h.shut) (fun e=>by have:=hr _ e.symm;omega)).trans h.shut⟩
theorem Book.from (h:Book k r W)(hk:KeepsFrom k W W'):Book k r W':=⟨hk.same _ _ (by omega) h.rec_ rfl,hk.same _ _ (Gn _) h.shut rfl⟩
theorem Book.turn (h:Book k r W):Book k r' (W.putObj (k+1) (.loop r')):=⟨World.putObj_heap_same (aw h.rec_),(World.putObj_heap_other (by omega)).trans h.shut⟩
end
theorem jT {B B':Nat}{W W':World}(h:KeepsFrom B W W')(hb:B≤B'):KeepsFrom B' W W':=⟨h.size,fun k o hk=>h.same k o (Gq hb hk)⟩
theorem je {B k:Nat}(W:World)(hk:k<B)(o:Obj):KeepsFrom B W (W.putObj k o):=⟨by simp,fun b _ hb h _=>(World.putObj_heap_other (by omega)).trans h⟩
theorem jD {F:Fence}{n:Nat}{P:Program}{w:World}{α:Type}{g:Operand}{ps:Array Tmp}{assign body:Code}{Q:Exit→Act→World→Prop}{a:Act}
  (hro:F.round=none) (h1:1≤n) {gf:Nat} {lb:Array Value} (hg:a.eval g = .func (.func gf) #[] lb) (hFg:F.fn gf) (eg:∀args w,(callFunc gf args).run P w = .ok (.enter gf args) w)
  {encs:α→Array Value} {Kp:World→World→Prop} {X:List α→α→World→World→Prop} {S Sp:List α→Prop} {w0:World} (hseq:uT F (n-1) P gf lb encs Kp X S Sp w0)
  (hKt:∀ {A B C:World},Kp A B→Kp B C→Kp A C) (hKb:∀(W:World) (l:Nat) (o o':Obj),w.heap.size≤l→W.heap[l]?=some o→o.isCells=false→o.isWalk=false→Kp W (W.putObj l o')) (hb0:Below w0.heap.size w0 w) (hps:∀x,(encs x).size=ps.size)
  (I:List α→World→Prop) (Im:List α×α→World→Prop) (Ix:Code→List α→World→Prop) (hI:OwnFrom w.heap.size I) (hIm:OwnFrom w.heap.size Im) (hIx:∀c,OwnFrom w.heap.size (Ix c)) (h0:I [] w)
  (hnew:∀pre x W0 W,I pre W0→Kept (fun _=>False) W0 W→X pre x W0 W→Im (pre,x) W) (Ax:α→Act→World→Prop) (hAx:∀x a',OwnFrom w.heap.size (fun (_:Unit) W=>Ax x a' W))
  (hassign:∀(l:Nat) (pre:List α) (x:α) (W:World) (K:Act→World→Prop),Im (pre,x) W→(∀a' W',KeepsFrom w.heap.size W W'→Kp W W'→Im (pre,x) W'→Ax x a' W'→K a' W') →
   assign.wpIn (F.inRound l) (n-1-1) P (Exit.then K (fun _ _ _=>False)) { tmps:=(ps.zip (encs x)).foldl (fun t (p,v)=>t.setIfInBounds p v) a.tmps,defers:=[] } W)
  (hbody:∀(l:Nat) (pre:List α) (x:α) (a':Act) (W:World),w.heap.size≤l→(∃r,W.heap[l]?=some (.loop r))→Im (pre,x) W→Ax x a' W→body.wpIn (F.inRound l) (n-1-1) P (ownPostG w.heap.size Kp I Ix (pre ++ [x]) W) a' W)
  (hdone:∀(D:Nat) (xs:List α) (W:World),w.heap.size≤D→S xs→I xs W→W.heap[D]?=some (.deferred (some []))→Q .normal { a with defers:={ target:=.collected D,args:=#[] }::a.defers } W)
  (hstop:∀(D:Nat) (c:Code) (pre:List α) (W:World),w.heap.size≤D→Sp pre→Ix c pre W→W.heap[D]?=some (.deferred (some []))→c.wpIn F n P Q { a with defers:={ target:=.collected D,args:=#[] }::a.defers } W) :
  (Code.rangeFunc g ps assign body).wpIn F n P Q a w:=by
 refine wpIn_rangeFunc fun fn hfn=>?_;rw [hro];obtain⟨k,hk⟩:∃k,w.heap.size=k:=⟨_,rfl⟩;obtain⟨rec,hrec⟩:∃rec:LoopState→Option Code→Loop,rec=fun st pe=>{ state:=st,pending:=pe,fn,tmps:=a.tmps,params:=ps,assign,body,defers:=k }:=⟨_,rfl⟩;have hstart:Book k (rec .ready none) ((w.alloc (.deferred (some []))).alloc (.loop (rec .ready none))):=by
  have e:=World.alloc_heap_new (w.alloc (.deferred (some []))) (.loop (rec .ready none));rw [World.size_alloc,hk]at e;have e2:=World.alloc_heap_new w (.deferred (some []));rw [hk]at e2;exact⟨e,(Below.heap_alloc _ _ _ (by simp;omega)).trans e2⟩
 have hbel:Below w0.heap.size w0 ((w.alloc (.deferred (some []))).alloc (.loop (rec .ready none))):=hb0.trans ((((Below.refl _ w).alloc (Gn _) _).alloc (by simp) _).mono hb0.size);have hI1:I [] ((w.alloc (.deferred (some []))).alloc (.loop (rec .ready none))):=hI.alloc _ (hI.alloc _ h0);have hrun:(Instr.enterLoop fn a.tmps ps assign body none).run P w = .ok (k+1,[{ target:=.collected k,args:=#[] }]) ((w.alloc (.deferred (some []))).alloc (.loop (rec .ready none))):=by
  rw [hrec,←hk];exact run_enterLoop_outer _ _ _ _ _
 have hsz:((w.alloc (.deferred (some []))).alloc (.loop (rec .ready none))).heap.size=k+1+1:=by rw [World.size_alloc,World.size_alloc,hk]
 generalize (w.alloc (.deferred (some []))).alloc (.loop (rec .ready none))=V at hstart hbel hI1 hrun hsz;rw [hk]at hI hIx hIm hAx hassign hbody hKb hdone hstop;clear h0 hb0 hk;refine⟨k+1,[{ target:=.collected k,args:=#[] }],V,{ target:=.fn (.func gf) lb,args:=#[.func (.yield (k+1)) #[] #[]] },V,gf,#[.func (.yield (k+1)) #[] #[]]++lb,V,hrun,?_,?_,?_,fun _=>h1,?_⟩
 ·simp only [resolve,hg];simp [go_sem]
 ·intro f' hf';simp [Target.leads]at hf';subst hf';exact hFg
 ·simp [invoke,go_sem,eg]
 have hrow:∀ {A:World} {row:Option Nat},(∀r,row=some r→V.heap.size≤r∧∃o:Obj,A.heap[r]?=some o∧o.isCells=false)→∀r,row=some r→k≤r∧∃o:Obj,A.heap[r]?=some o∧o.isCells=false :=
  fun h r e=>by obtain⟨hB,o,ho,hw⟩:=h r e;exact⟨by omega,o,ho,hw⟩
 refine(hseq (k+1) (fun pre W=>I pre W∧Book k (rec .ready none) W) (fun pre W=>∃c,Ix c pre W∧Book k (rec .done (some c)) W) V hbel
  (fun s A B row hs hgr hr=>⟨hI s A B row hs.1 hgr (hrow (A:=A) hr),hs.2.abides hgr (fun r e=>by have:=(hr r e).1;omega)⟩)
  (fun s A B row ⟨c,hc,hb⟩ hgr hr=>⟨c,hIx c s A B row hc hgr (hrow (A:=A) hr),hb.abides hgr (fun r e=>by have:=(hr r e).1;omega)⟩) ?_ ⟨hI1,hstart⟩).mono ?_
 ·rintro pre x W0 W ⟨hi0,hb0⟩ hkept hX
  have hi:=hnew pre x W0 W hi0 hkept hX;have hb:=hb0.kept hkept;clear hi0 hb0 hkept hX;have hy:=run_yield (P:=P) (args:=encs x) hb.rec_ (by rw [hrec];exact hps x);have hbr:∀W,Book k (rec .ready none) W→(Instr.beginRound (k+1)).run P W = .ok () (W.putObj (k+1) (.loop { rec .ready none with state:=.busy })):=fun W h=>run_beginRound h.rec_ (by rw [hrec]);have her:∀(jump:Option Code) W,Book k { rec .ready none with state:=.busy } W→(Instr.endRound (k+1) jump).run P W = .ok (.bool jump.isNone) (W.putObj (k+1) (.loop (rec (if jump.isNone then .ready else .done) jump))):=fun jump W h=>by
   have e:=run_endRound (P:=P) jump h.rec_;rw [hrec]at e ⊢;exact e
  have hfn2:(rec .ready none).fn=fn∧(rec .ready none).assign=assign∧(rec .ready none).body=body∧(rec .ready none).tmps=a.tmps∧(rec .ready none).params=ps:=by rw [hrec];exact⟨rfl,rfl,rfl,rfl,rfl⟩
  rw [hrec]at hy;refine⟨fn,_,assign,body,hy,roundIn_of_wpIn hfn (hassign _ pre x W _ hi ?_)⟩;intro a' Wa hkf hkp hia hax;have hba:=hb.from hkf
  refine⟨_,hbr Wa hba,?_⟩;have hb2:Book k { rec .ready none with state:=.busy } (Wa.putObj (k+1) (.loop { rec .ready none with state:=.busy })):=hba.turn;refine wpIn_mono (hbody _ pre x a' _ (by omega) ⟨_,hb2.rec_⟩ (hIm.putObj _ hia (by omega) hba.rec_ rfl) ((hAx x a').putObj (s:=()) _ hax (by omega) hba.rec_ rfl)) ?_;have keeps:∀(W3:World) (o:Obj),KeepsFrom k (Wa.putObj (k+1) (.loop { rec .ready none with state:=.busy })) W3→KeepsFrom V.heap.size W (W3.putObj (k+1) o):=fun W3 o hk3 =>
   ((jT hkf (by omega)).trans (je Wa (by omega) _)).trans ((jT hk3 (by omega)).trans (je W3 (by omega) o))
  have stop:∀(c:Code) (W3:World),KeepsFrom k (Wa.putObj (k+1) (.loop { rec .ready none with state:=.busy })) W3→Ix c (pre ++ [x]) W3→Ix c (pre ++ [x]) (W3.putObj (k+1) (.loop (rec .done (some c))))∧Book k (rec .done (some c)) (W3.putObj (k+1) (.loop (rec .done (some c))))∧(Instr.endRound (k+1) (some c)).run P W3 = .ok (.bool false) (W3.putObj (k+1) (.loop (rec .done (some c)))):=fun c W3 hk3 hi3 =>
   have hb3:=hb2.from hk3
   ⟨(hIx c).putObj _ hi3 (by omega) hb3.rec_ rfl,hb3.turn,her (some c) W3 hb3⟩
  rintro e a3 W3 hp;cases e with
  | normal =>
   obtain⟨hk3,hkp3,hi3⟩:=hp;have hb3:=hb2.from hk3
   exact⟨_,_,her none W3 hb3,keeps W3 _ hk3,.inl ⟨rfl,⟨hI.putObj _ hi3 (by omega) hb3.rec_ rfl,hb3.turn⟩,hKt hkp (hKt (hKt (hKb _ _ _ _ (by omega) hba.rec_ rfl rfl) hkp3) (hKb _ _ _ _ (by omega) hb3.rec_ rfl rfl))⟩⟩
  | ret=>obtain⟨q1,q2,q3⟩:=stop .ret W3 hp.1 hp.2;exact⟨_,_,q3,keeps W3 _ hp.1,.inr ⟨rfl,.ret,q1,q2⟩⟩
  | exit id=>obtain⟨q1,q2,q3⟩:=stop (.exit id) W3 hp.1 hp.2;exact⟨_,_,q3,keeps W3 _ hp.1,.inr ⟨rfl,.exit id,q1,q2⟩⟩
  | goto t=>obtain⟨q1,q2,q3⟩:=stop (.goto t) W3 hp.1 hp.2;exact⟨_,_,q3,keeps W3 _ hp.1,.inr ⟨rfl,.goto t,q1,q2⟩⟩
  | panic ch=>exact hp.elim
  | outgrown=>exact hp.elim
 ·rintro e W2 ⟨⟨v,rfl⟩,⟨xs,hS,hi,hb⟩|⟨pre,hSp,c,hi,hb⟩⟩
  ·exact⟨none,_,by have e:=run_endLoop (P:=P) hb.rec_ (by rw [hrec];simp);rw [hrec]at e;exact e,hdone _ xs _ (Gn _) hS (hI.putObj _ hi (by omega) hb.rec_ rfl) ((World.putObj_heap_other (by omega)).trans hb.shut)⟩
  ·exact⟨some c,_,by have e:=run_endLoop (P:=P) hb.rec_ (by rw [hrec];simp);rw [hrec]at e;exact e,hstop _ c pre _ (Gn _) hSp ((hIx c).putObj _ hi (by omega) hb.rec_ rfl) ((World.putObj_heap_other (by omega)).trans hb.shut)⟩
end Go.Proofs.YtdobimafhbfkhaaGreat
