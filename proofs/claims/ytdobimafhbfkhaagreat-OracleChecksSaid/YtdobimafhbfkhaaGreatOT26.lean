/- Joined texts: The tree: a node's rows, inserted into and deleted from, up to the store (printed by gen27.py). The tree: three nodes of a tree, side by side. The tree: a node's rows, appended to, up to the store (printed by gen30.py). -/
import Derived.Test.YtdobimafhbfkhaaGreatOT25
namespace Go.Proofs.YtdobimafhbfkhaaGreat
open Go.ChangeShapes Go.WideShapes Go.ChangeAt Go.RowKit
set_option maxRecDepth 100000
set_option linter.unusedSimpArgs false
section
variable {B w : World} {D : PH} {t g c N : Nat} {fv : Value} {ns : List NP} {fr : List Nat} {k : Num} {l : List HP}
theorem TreeS.ins_keys {bx b q:Nat}{p:NP}{x:Val}(h:TreeS B D w t (.slice (some ⟨g,0,none⟩) N c) fv ns fr k (blk bx (Val.cells x).toArray tV::l))(hp:ns[b]?=some p)(hq:q≤p.2.keys.length)(hb:(p.2.keys.length+1)*32≤140737488355328) :
  Calls Tryz.prog 122 #[p.1.kv,.int .i64 q,.slice (some ⟨bx,0,none⟩) 1 1] w fun e w'=>∃o c',e = .returned (.slice o (p.2.keys.length+1) c')∧w'.cell? ⟨g,b*4+1,none⟩=some p.1.kv∧(∀j,w'.frozen? ⟨g,j,none⟩=false) ∧
   TreeS B D (w'.setCell ⟨g,b*4+1,none⟩ (.slice o (p.2.keys.length+1) c')) t (.slice (some ⟨g,0,none⟩) N c) fv (ns.set b (⟨(.slice o (p.2.keys.length+1) c'),p.1.vv,p.1.dv⟩,{ p.2 with keys:=aU p.2.keys q x })) fr k l:=by
 refine(fY (i:=q) hq (Val.len x) (Val.one x) bx hb (h.for_keys hp)).mono ?_
 rintro e w' ⟨v',rfl,hs⟩
 have hs1:=hs.swap.drop
 obtain⟨o,c',rfl⟩:=hs1.own_shape
 obtain⟨n0,n1,n2,n3,nf⟩:=bY (hs1.own 4 rfl) hp
 refine⟨o,c',rfl,n1,nf,?_⟩
 rw [dd Val.len]at hs1
 obtain⟨xs,hxs⟩:∃xs,aU p.2.keys q x=xs:=⟨_,rfl⟩
 have hsz:xs.length=p.2.keys.length+1:=by rw [←hxs];exact bO _ _ _
 rw [hxs]at hs1 ⊢
 rw [←hsz]at hs1 ⊢
 exact TreeS.set_keys hp hs1
theorem TreeS.del_keys {b q n:Nat}{p:NP}(h:TreeS B D w t (.slice (some ⟨g,0,none⟩) N c) fv ns fr k l)(hp:ns[b]?=some p)(hn:p.2.keys.length=n+1)(hq:q≤n) :
  Calls Tryz.prog 119 #[p.1.kv,.int .i64 q,.int .i64 (q+1)] w fun e w'=>∃o c',e = .returned (.slice o n c')∧w'.cell? ⟨g,b*4+1,none⟩=some p.1.kv∧(∀j,w'.frozen? ⟨g,j,none⟩=false) ∧
   TreeS B D (w'.setCell ⟨g,b*4+1,none⟩ (.slice o n c')) t (.slice (some ⟨g,0,none⟩) N c) fv (ns.set b (⟨(.slice o n c'),p.1.vv,p.1.dv⟩,{ p.2 with keys:=aQ p.2.keys q })) fr k l:=by
 have hf:=h.focus hp
 unfold da at hf
 rw [hn]at hf
 refine(li (i:=q) (n:=n) (eR Val.len p.2.keys q).symm hq hf).mono ?_
 rintro e w' ⟨v',rfl,hs1⟩
 obtain⟨o,c',rfl⟩:=hs1.own_shape
 obtain⟨n0,n1,n2,n3,nf⟩:=bY (hs1.own 4 rfl) hp
 refine⟨o,c',rfl,n1,nf,?_⟩
 obtain⟨xs,hxs⟩:∃xs,aQ p.2.keys q=xs:=⟨_,rfl⟩
 have hsz:xs.length=n:=by have:=cN p.2.keys q (by omega);rw [hxs]at this;omega
 rw [hxs]at hs1 ⊢
 exact TreeS.set_keys hp (by unfold da;rw [hsz];exact hs1)
theorem TreeS.ins_vals {bx b q:Nat}{p:NP}{x:VT}(h:TreeS B D w t (.slice (some ⟨g,0,none⟩) N c) fv ns fr k (blk bx (dE x).toArray tW::l))(hp:ns[b]?=some p)(hq:q≤p.2.vals.length)(hb:(p.2.vals.length+1)*24≤140737488355328) :
  Calls Tryz.prog 123 #[p.1.vv,.int .i64 q,.slice (some ⟨bx,0,none⟩) 1 1] w fun e w'=>∃o c',e = .returned (.slice o (p.2.vals.length+1) c')∧w'.cell? ⟨g,b*4+2,none⟩=some p.1.vv∧(∀j,w'.frozen? ⟨g,j,none⟩=false) ∧
   TreeS B D (w'.setCell ⟨g,b*4+2,none⟩ (.slice o (p.2.vals.length+1) c')) t (.slice (some ⟨g,0,none⟩) N c) fv (ns.set b (⟨p.1.kv,(.slice o (p.2.vals.length+1) c'),p.1.dv⟩,{ p.2 with vals:=aU p.2.vals q x })) fr k l:=by
 refine(kG (i:=q) hq (jT x) (vone x) bx hb (h.for_vals hp)).mono ?_
 rintro e w' ⟨v',rfl,hs⟩
 have hs1:=hs.swap.drop
 obtain⟨o,c',rfl⟩:=hs1.own_shape
 obtain⟨n0,n1,n2,n3,nf⟩:=bY (hs1.own 4 rfl) hp
 refine⟨o,c',rfl,n2,nf,?_⟩
 rw [dd jT]at hs1
 obtain⟨xs,hxs⟩:∃xs,aU p.2.vals q x=xs:=⟨_,rfl⟩
 have hsz:xs.length=p.2.vals.length+1:=by rw [←hxs];exact bO _ _ _
 rw [hxs]at hs1 ⊢
 rw [←hsz]at hs1 ⊢
 exact TreeS.set_vals hp hs1
theorem TreeS.del_vals {b q n:Nat}{p:NP}(h:TreeS B D w t (.slice (some ⟨g,0,none⟩) N c) fv ns fr k l)(hp:ns[b]?=some p)(hn:p.2.vals.length=n+1)(hq:q≤n) :
  Calls Tryz.prog 120 #[p.1.vv,.int .i64 q,.int .i64 (q+1)] w fun e w'=>∃o c',e = .returned (.slice o n c')∧w'.cell? ⟨g,b*4+2,none⟩=some p.1.vv∧(∀j,w'.frozen? ⟨g,j,none⟩=false) ∧
   TreeS B D (w'.setCell ⟨g,b*4+2,none⟩ (.slice o n c')) t (.slice (some ⟨g,0,none⟩) N c) fv (ns.set b (⟨p.1.kv,(.slice o n c'),p.1.dv⟩,{ p.2 with vals:=aQ p.2.vals q })) fr k l:=by
 have hf:=h.focus hp
 have hf:=hf.swap
 unfold cY at hf
 rw [hn]at hf
 refine(j9 (i:=q) (n:=n) (eR jT p.2.vals q).symm hq hf).mono ?_
 rintro e w' ⟨v',rfl,hs1⟩
 obtain⟨o,c',rfl⟩:=hs1.own_shape
 obtain⟨n0,n1,n2,n3,nf⟩:=bY (hs1.own 4 rfl) hp
 refine⟨o,c',rfl,n2,nf,?_⟩
 obtain⟨xs,hxs⟩:∃xs,aQ p.2.vals q=xs:=⟨_,rfl⟩
 have hsz:xs.length=n:=by have:=cN p.2.vals q (by omega);rw [hxs]at this;omega
 rw [hxs]at hs1 ⊢
 exact TreeS.set_vals hp (by unfold cY;rw [hsz];exact hs1)
theorem TreeS.ins_kids {bx b q:Nat}{p:NP}{x:Nat}(h:TreeS B D w t (.slice (some ⟨g,0,none⟩) N c) fv ns fr k (blk bx (ncells x).toArray tI::l))(hp:ns[b]?=some p)(hq:q≤p.2.kids.length)(hb:(p.2.kids.length+1)*8≤140737488355328) :
  Calls Tryz.prog 127 #[p.1.dv,.int .i64 q,.slice (some ⟨bx,0,none⟩) 1 1] w fun e w'=>∃o c',e = .returned (.slice o (p.2.kids.length+1) c')∧w'.cell? ⟨g,b*4+3,none⟩=some p.1.dv∧(∀j,w'.frozen? ⟨g,j,none⟩=false) ∧
   TreeS B D (w'.setCell ⟨g,b*4+3,none⟩ (.slice o (p.2.kids.length+1) c')) t (.slice (some ⟨g,0,none⟩) N c) fv (ns.set b (⟨p.1.kv,p.1.vv,(.slice o (p.2.kids.length+1) c')⟩,{ p.2 with kids:=aU p.2.kids q x })) fr k l:=by
 refine(iu (i:=q) hq (iZ x) (sd x) bx hb (h.for_kids hp)).mono ?_
 rintro e w' ⟨v',rfl,hs⟩
 have hs1:=hs.swap.drop
 obtain⟨o,c',rfl⟩:=hs1.own_shape
 obtain⟨n0,n1,n2,n3,nf⟩:=bY (hs1.own 4 rfl) hp
 refine⟨o,c',rfl,n3,nf,?_⟩
 rw [dd iZ]at hs1
 obtain⟨xs,hxs⟩:∃xs,aU p.2.kids q x=xs:=⟨_,rfl⟩
 have hsz:xs.length=p.2.kids.length+1:=by rw [←hxs];exact bO _ _ _
 rw [hxs]at hs1 ⊢
 rw [←hsz]at hs1 ⊢
 exact TreeS.set_kids hp hs1
theorem TreeS.del_kids {b q n:Nat}{p:NP}(h:TreeS B D w t (.slice (some ⟨g,0,none⟩) N c) fv ns fr k l)(hp:ns[b]?=some p)(hn:p.2.kids.length=n+1)(hq:q≤n) :
  Calls Tryz.prog 144 #[p.1.dv,.int .i64 q,.int .i64 (q+1)] w fun e w'=>∃o c',e = .returned (.slice o n c')∧w'.cell? ⟨g,b*4+3,none⟩=some p.1.dv∧(∀j,w'.frozen? ⟨g,j,none⟩=false) ∧
   TreeS B D (w'.setCell ⟨g,b*4+3,none⟩ (.slice o n c')) t (.slice (some ⟨g,0,none⟩) N c) fv (ns.set b (⟨p.1.kv,p.1.vv,(.slice o n c')⟩,{ p.2 with kids:=aQ p.2.kids q })) fr k l:=by
 have hf:=h.focus hp
 have hf:=hf.front 2 rfl
 simp only [List.eraseIdx_cons_succ,List.eraseIdx_cons_zero]at hf
 unfold bi at hf
 rw [hn]at hf
 refine(pV (i:=q) (n:=n) (eR iZ p.2.kids q).symm hq hf).mono ?_
 rintro e w' ⟨v',rfl,hs1⟩
 obtain⟨o,c',rfl⟩:=hs1.own_shape
 obtain⟨n0,n1,n2,n3,nf⟩:=bY (hs1.own 4 rfl) hp
 refine⟨o,c',rfl,n3,nf,?_⟩
 obtain⟨xs,hxs⟩:∃xs,aQ p.2.kids q=xs:=⟨_,rfl⟩
 have hsz:xs.length=n:=by have:=cN p.2.kids q (by omega);rw [hxs]at this;omega
 rw [hxs]at hs1 ⊢
 exact TreeS.set_kids hp (by unfold bi;rw [hsz];exact hs1)
end
structure Tri (ns0 ns:List NP)(i a b:Nat)(pi pa pb:NP):Prop where
 hi:ns[i]?=some pi
 ha:ns[a]?=some pa
 hb:ns[b]?=some pb
 oth:∀z,z≠i→z≠a→z≠b→ns[z]?=ns0[z]?
 len:ns.length=ns0.length
 ia:i≠a
 ib:i≠b
 ab:a≠b
section
variable {ns0 ns : List NP} {i a b : Nat} {pi pa pb p' : NP}
theorem Tri.lt (h:Tri ns0 ns i a b pi pa pb):i<ns0.length∧a<ns0.length∧b<ns0.length :=
 ⟨h.len▸(List.getElem?_eq_some_iff.1 h.hi).1,h.len▸(List.getElem?_eq_some_iff.1 h.ha).1,h.len▸(List.getElem?_eq_some_iff.1 h.hb).1⟩
theorem Tri.set_i (h:Tri ns0 ns i a b pi pa pb)(p':NP):Tri ns0 (ns.set i p') i a b p' pa pb :=
 ⟨bT h.hi,bM h.ia h.ha,bM h.ib h.hb,fun z h1 h2 h3=>by rw [List.getElem?_set_ne (Ne.symm h1)];exact h.oth z h1 h2 h3,by rw [List.length_set,h.len],h.ia,h.ib,h.ab⟩
theorem Tri.set_a (h:Tri ns0 ns i a b pi pa pb)(p':NP):Tri ns0 (ns.set a p') i a b pi p' pb :=
 ⟨bM (Ne.symm h.ia) h.hi,bT h.ha,bM h.ab h.hb,fun z h1 h2 h3=>by rw [List.getElem?_set_ne (Ne.symm h2)];exact h.oth z h1 h2 h3,by rw [List.length_set,h.len],h.ia,h.ib,h.ab⟩
theorem Tri.set_b (h:Tri ns0 ns i a b pi pa pb)(p':NP):Tri ns0 (ns.set b p') i a b pi pa p' :=
 ⟨bM (Ne.symm h.ib) h.hi,bM (Ne.symm h.ab) h.ha,bT h.hb,fun z h1 h2 h3=>by rw [List.getElem?_set_ne (Ne.symm h3)];exact h.oth z h1 h2 h3,by rw [List.length_set,h.len],h.ia,h.ib,h.ab⟩
def TM.tri (T:TM)(i a b:Nat)(mi ma mb:NodeM):TM:={ T with nodes:=((T.nodes.set i mi).set a ma).set b mb }
theorem Tri.done (h:Tri ns0 ns i a b pi pa pb){T:TM}(h0:ns0.map Prod.snd=T.nodes):ns.map Prod.snd=(T.tri i a b pi.2 pa.2 pb.2).nodes:=by
 obtain⟨l1,l2,l3⟩:=h.lt
 unfold TM.tri
 dsimp only
 rw [←h0]
 refine List.ext_getElem? (fun z=>?_)
 rw [List.getElem?_map]
 by_cases hb:z=b
 ·subst hb
  rw [h.hb,List.getElem?_set_self (by simp;omega)];rfl
 ·rw [List.getElem?_set_ne (Ne.symm hb)]
  by_cases ha:z=a
  ·subst ha
   rw [h.ha,List.getElem?_set_self (by simp;omega)];rfl
  ·rw [List.getElem?_set_ne (Ne.symm ha)]
   by_cases hi:z=i
   ·subst hi
    rw [h.hi,List.getElem?_set_self (by simp;omega)];rfl
   ·rw [List.getElem?_set_ne (Ne.symm hi),h.oth z hi ha hb,List.getElem?_map]
end
theorem TreeS.key_set {B w:World}{D:PH}{t N g c kg nk ck:Nat}{fv:Value}{ns:List NP}{fr:List Nat}{k:Num}{l:List HP}(h:TreeS B D w t (.slice (some ⟨g,0,none⟩) N c) fv ns fr k l){i:Nat}{p:NP}(hi:ns[i]?=some p)(hk:p.1.kv = .slice (some ⟨kg,0,none⟩) nk ck)(j:Nat)(x:Val)(hj:j<p.2.keys.length) :
  TreeS B D (((w.setCell ⟨kg,j*3,none⟩ (.bool x.t)).setCell ⟨kg,j*3+1,none⟩ (.int .i64 x.n)).setCell ⟨kg,j*3+2,none⟩ (.string x.s)) t (.slice (some ⟨g,0,none⟩) N c) fv (ns.set i (p.1,{ p.2 with keys:=p.2.keys.set j x })) fr k l:=by
 obtain rfl:=dr (Sat.own h 1 rfl)
 have h1:=(h.focus hi)
 rw [hk]at h1
 obtain⟨_,_,hv,hc,_⟩:=(h1.own 0 rfl).rd.2.2
 cases hv
 have h2:=((h1.own_set (j*3) (.bool x.t) rfl).own_set (j*3+1) (.int .i64 x.n) rfl).own_set (j*3+2) (.string x.s) rfl
 have e:∀(ks:List Val) (j:Nat),j<ks.length→((((ks.flatMap Val.cells).set (j*3) (.bool x.t)).set (j*3+1) (.int .i64 x.n)).set (j*3+2) (.string x.s))=(ks.set j x).flatMap Val.cells:=by
  intro ks
  induction ks with
  | nil=>intro j hj;simp at hj
  | cons y ks ih=>intro j hj;cases j with
   | zero=>simp [Val.cells]
   | succ j =>
    have:=ih j (by simpa using hj)
    simp only [List.flatMap_cons,CP]
    rw [←this]
    have e0:∀(q:Nat) (u:Value) (r:List Value),(y.cells++r).set (q+3) u=y.cells++r.set q u:=by
     intro q u r;simp [Val.cells]
    rw [show(j+1)*3=j*3+3 by omega,show j*3+3+1=(j*3+1)+3 by omega,show j*3+3+2=(j*3+2)+3 by omega,e0,e0,e0]
 rw [e _ _ hj]at h2
 have e2:(p.2.keys.set j x).length=p.2.keys.length:=List.length_set
 have h3:(ns.set i (p.1,{ p.2 with keys:=p.2.keys.set j x })).flatMap aG=ns.flatMap aG:=by
  have hlt:=(List.getElem?_eq_some_iff.1 hi).1
  have:=dF 0 p (p.1,{ p.2 with keys:=p.2.keys.set j x }) (.bool p.2.leaf) (by omega) rfl ns i hi
  rw [←this,Nat.add_zero]
  refine List.ext_getElem? (fun q=>?_)
  by_cases hq:q=i*4
  ·subst hq
   rw [List.getElem?_set_self (by rw [cz eF];omega)]
   have:=bH eF ns i p hi 0 _ rfl
   rw [Nat.add_zero]at this
   exact this.symm
  ·rw [List.getElem?_set_ne (fun h=>hq h.symm)]
 refine TreeS.unfocus (p':=(p.1,{ p.2 with keys:=p.2.keys.set j x })) hi ?_
 rw [h3,hk]
 unfold da
 dsimp only
 rw [e2]
 exact h2
theorem infoW : (Tryz.prog.info? tW).map (fun i=>(i.zero,i.size,i.bytes))=some (some (.slice none 0 0),1,24):=by kernel_rfl
theorem sB : (Tryz.prog.info? tV).map (fun i=>(i.zero,i.size,i.bytes))=some (some (.agg #[.bool false,.int .i64 0,.string ⟨#[]⟩]),3,32):=by kernel_rfl
theorem kM {w:World}{bx:Nat}{cs:List Value}{t:TypeId}{size:Nat}(h:w.heap[bx]?=some (.cells cs.toArray t (0,0)))(hl:cs.length=size):Rd w size (.slice (some ⟨bx,0,none⟩) 1 1) 1 cs:=by
 have:=cd (n:=1) (size:=size) h (by simpa using hl) (by unfold maxLen;omega)
 simpa using this
section
variable {B w : World} {D : PH} {t g c N : Nat} {fv : Value} {ns : List NP} {fr : List Nat} {k : Num} {l : List HP}
theorem dl {ops:Array Oper}{rest:List Oper}{o:Oper}{a:Act}{Q:Exit→Act→World→Prop}(hgd:o.guard=none)(s x:Operand)
  (ho:o.op = .call { callee:=.builtin .append,args:=#[s,x],argTypes:=#[25,25] })
  {b:Nat} {p:NP} {new:List Val} {xv:Value} (h:TreeS B D w t (.slice (some ⟨g,0,none⟩) N c) fv ns fr k l) (hp:ns[b]?=some p) (hv:a.eval s=p.1.kv) (hx:a.eval x=xv) (hrd:Rd w 3 xv new.length (new.flatMap Val.cells)) (hb:p.2.keys.length+new.length≤10000)
  (K:∀u c' w',w'.cell? ⟨g,b*4+1,none⟩=some p.1.kv→(∀j,w'.frozen? ⟨g,j,none⟩=false) →
   TreeS B D (w'.setCell ⟨g,b*4+1,none⟩ (.slice u (p.2.keys.length+new.length) c')) t (.slice (some ⟨g,0,none⟩) N c) fv (ns.set b (⟨(.slice u (p.2.keys.length+new.length) c'),p.1.vv,p.1.dv⟩,{ p.2 with keys:=p.2.keys++new })) fr k l→wpList Tryz.prog ops Q rest (a.put o.dst (.slice u (p.2.keys.length+new.length) c')) w'):wpList Tryz.prog ops Q (o::rest) a w:=by
 obtain⟨i0,hinf,hz0,hz1,hz2⟩:=info_parts sB
 have hf:=h.focus hp
 unfold da at hf
 refine aI _ hgd s x 25 ho tV i0 _ 3 32 Tryz.underlying25 hinf hz0 hz1 hz2 rfl _ _ _ hv hf xv new.length (new.flatMap Val.cells) hx hrd (fun u hu=>?_) (by unfold maxLen;omega) (by omega) ?_
 ·obtain⟨y,_,hy⟩:=List.mem_flatMap.1 hu
  exact Val.one y u hy
 intro v2 w2 h2 h2o
 obtain⟨u,c',rfl⟩:=h2.own_shape
 obtain⟨n0,n1,n2,n3,nf⟩:=bY (h2.own 4 rfl) hp
 refine K u c' w2 n1 nf ?_
 obtain⟨xs,hxs⟩:∃xs,p.2.keys++new=xs:=⟨_,rfl⟩
 have hsz:xs.length=p.2.keys.length+new.length:=by rw [←hxs,List.length_append]
 rw [←List.flatMap_append,hxs,←hsz]at h2
 rw [hxs,←hsz]
 exact TreeS.set_keys hp h2
theorem er {ops:Array Oper}{rest:List Oper}{o:Oper}{a:Act}{Q:Exit→Act→World→Prop}(hgd:o.guard=none)(s x:Operand)
  (ho:o.op = .call { callee:=.builtin .append,args:=#[s,x],argTypes:=#[55,55] })
  {b:Nat} {p:NP} {new:List VT} {xv:Value} (h:TreeS B D w t (.slice (some ⟨g,0,none⟩) N c) fv ns fr k l) (hp:ns[b]?=some p) (hv:a.eval s=p.1.vv) (hx:a.eval x=xv) (hrd:Rd w 1 xv new.length (new.flatMap dE)) (hb:p.2.vals.length+new.length≤10000)
  (K:∀u c' w',w'.cell? ⟨g,b*4+2,none⟩=some p.1.vv→(∀j,w'.frozen? ⟨g,j,none⟩=false) →
   TreeS B D (w'.setCell ⟨g,b*4+2,none⟩ (.slice u (p.2.vals.length+new.length) c')) t (.slice (some ⟨g,0,none⟩) N c) fv (ns.set b (⟨p.1.kv,(.slice u (p.2.vals.length+new.length) c'),p.1.dv⟩,{ p.2 with vals:=p.2.vals++new })) fr k l→wpList Tryz.prog ops Q rest (a.put o.dst (.slice u (p.2.vals.length+new.length) c')) w'):wpList Tryz.prog ops Q (o::rest) a w:=by
 obtain⟨i0,hinf,hz0,hz1,hz2⟩:=info_parts infoW
 have hf:=h.focus hp
 have hf:=hf.swap
 unfold cY at hf
 refine aI _ hgd s x 55 ho tW i0 _ 1 24 Tryz.underlying55 hinf hz0 hz1 hz2 rfl _ _ _ hv hf xv new.length (new.flatMap dE) hx hrd (fun u hu=>?_) (by unfold maxLen;omega) (by omega) ?_
 ·obtain⟨y,_,hy⟩:=List.mem_flatMap.1 hu
  exact vone y u hy
 intro v2 w2 h2 h2o
 obtain⟨u,c',rfl⟩:=h2.own_shape
 obtain⟨n0,n1,n2,n3,nf⟩:=bY (h2.own 4 rfl) hp
 refine K u c' w2 n2 nf ?_
 obtain⟨xs,hxs⟩:∃xs,p.2.vals++new=xs:=⟨_,rfl⟩
 have hsz:xs.length=p.2.vals.length+new.length:=by rw [←hxs,List.length_append]
 rw [←List.flatMap_append,hxs,←hsz]at h2
 rw [hxs,←hsz]
 exact TreeS.set_vals hp h2
theorem eq {ops:Array Oper}{rest:List Oper}{o:Oper}{a:Act}{Q:Exit→Act→World→Prop}(hgd:o.guard=none)(s x:Operand)
  (ho:o.op = .call { callee:=.builtin .append,args:=#[s,x],argTypes:=#[117,117] })
  {b:Nat} {p:NP} {new:List Nat} {xv:Value} (h:TreeS B D w t (.slice (some ⟨g,0,none⟩) N c) fv ns fr k l) (hp:ns[b]?=some p) (hv:a.eval s=p.1.dv) (hx:a.eval x=xv) (hrd:Rd w 1 xv new.length (new.flatMap ncells)) (hb:p.2.kids.length+new.length≤10000)
  (K:∀u c' w',w'.cell? ⟨g,b*4+3,none⟩=some p.1.dv→(∀j,w'.frozen? ⟨g,j,none⟩=false) →
   TreeS B D (w'.setCell ⟨g,b*4+3,none⟩ (.slice u (p.2.kids.length+new.length) c')) t (.slice (some ⟨g,0,none⟩) N c) fv (ns.set b (⟨p.1.kv,p.1.vv,(.slice u (p.2.kids.length+new.length) c')⟩,{ p.2 with kids:=p.2.kids++new })) fr k l→wpList Tryz.prog ops Q rest (a.put o.dst (.slice u (p.2.kids.length+new.length) c')) w'):wpList Tryz.prog ops Q (o::rest) a w:=by
 obtain⟨i0,hinf,hz0,hz1,hz2⟩:=info_parts infoI
 have hf:=h.focus hp
 have hf:=hf.front 2 rfl
 simp only [List.eraseIdx_cons_succ,List.eraseIdx_cons_zero]at hf
 unfold bi at hf
 refine aI _ hgd s x 117 ho tI i0 _ 1 8 Tryz.underlying117 hinf hz0 hz1 hz2 rfl _ _ _ hv hf xv new.length (new.flatMap ncells) hx hrd (fun u hu=>?_) (by unfold maxLen;omega) (by omega) ?_
 ·obtain⟨y,_,hy⟩:=List.mem_flatMap.1 hu
  exact sd y u hy
 intro v2 w2 h2 h2o
 obtain⟨u,c',rfl⟩:=h2.own_shape
 obtain⟨n0,n1,n2,n3,nf⟩:=bY (h2.own 4 rfl) hp
 refine K u c' w2 n3 nf ?_
 obtain⟨xs,hxs⟩:∃xs,p.2.kids++new=xs:=⟨_,rfl⟩
 have hsz:xs.length=p.2.kids.length+new.length:=by rw [←hxs,List.length_append]
 rw [←List.flatMap_append,hxs,←hsz]at h2
 rw [hxs,←hsz]
 exact TreeS.set_kids hp h2
end
end Go.Proofs.YtdobimafhbfkhaaGreat
