/- The tree: a node's rows, inserted into and deleted from, up to the store, and what follows. -/
import Derived.Test.YtdobimafhbfkhaaGreatOY20
set_option maxHeartbeats 64000000
namespace Go.Proofs.YtdobimafhbfkhaaGreat
open Go.ChangeShapes Go.WideShapes Go.ChangeAt Go.RowKit
set_option maxRecDepth 100000
set_option linter.unusedSimpArgs false
section
variable {B w : World} {D : PH} {t g c N : Nat} {fv : Value} {ns : List NP} {fr : List Nat} {k : Num} {l : List HP}
theorem TreeS.ins_keys {bx b q:Nat}{p:NP}{x:Val}(h:TreeS B D w t (.slice (some ⟨g,0,none⟩) N c) fv ns fr k (blk bx (Val.cells x).toArray tV::l))(hp:ns[b]?=some p)(hq:q≤p.2.keys.length)(hb:(p.2.keys.length+1)*32≤140737488355328) :
  Calls Tryz.prog 122 #[p.1.kv,.int .i64 q,.slice (some ⟨bx,0,none⟩) 1 1] w fun e w'=>∃o c',e = .returned (.slice o (p.2.keys.length+1) c')∧w'.cell? ⟨g,b*4+1,none⟩=some p.1.kv∧(∀j,w'.frozen? ⟨g,j,none⟩=false) ∧
   TreeS B D (w'.setCell ⟨g,b*4+1,none⟩ (.slice o (p.2.keys.length+1) c')) t (.slice (some ⟨g,0,none⟩) N c) fv (ns.set b (⟨(.slice o (p.2.keys.length+1) c'),p.1.vv,p.1.dv⟩,{ p.2 with keys:=aT p.2.keys q x })) fr k l:=by
 refine(ic (i:=q) hq (Val.len x) (Val.one x) bx hb (h.for_keys hp)).mono ?_;rintro e w' ⟨v',rfl,hs⟩;have hs1:=hs.swap.drop;obtain⟨o,c',rfl⟩:=hs1.own_shape;obtain⟨n0,n1,n2,n3,nf⟩:=cA (hs1.own 4 rfl) hp;refine⟨o,c',rfl,n1,nf,?_⟩;rw [dq Val.len]at hs1;obtain⟨xs,hxs⟩:∃xs,aT p.2.keys q x=xs:=⟨_,rfl⟩;have hsz:xs.length=p.2.keys.length+1:=by rw [←hxs];exact bQ _ _ _
 rw [hxs]at hs1 ⊢;rw [←hsz]at hs1 ⊢;exact TreeS.set_keys hp hs1
theorem TreeS.del_keys {b q n:Nat}{p:NP}(h:TreeS B D w t (.slice (some ⟨g,0,none⟩) N c) fv ns fr k l)(hp:ns[b]?=some p)(hn:p.2.keys.length=n+1)(hq:q≤n) :
  Calls Tryz.prog 119 #[p.1.kv,.int .i64 q,.int .i64 (q+1)] w fun e w'=>∃o c',e = .returned (.slice o n c')∧w'.cell? ⟨g,b*4+1,none⟩=some p.1.kv∧(∀j,w'.frozen? ⟨g,j,none⟩=false) ∧
   TreeS B D (w'.setCell ⟨g,b*4+1,none⟩ (.slice o n c')) t (.slice (some ⟨g,0,none⟩) N c) fv (ns.set b (⟨(.slice o n c'),p.1.vv,p.1.dv⟩,{ p.2 with keys:=aR p.2.keys q })) fr k l:=by
 have hf:=h.focus hp;unfold dm at hf;rw [hn]at hf;refine(mZ (i:=q) (n:=n) (fG Val.len p.2.keys q).symm hq hf).mono ?_;rintro e w' ⟨v',rfl,hs1⟩;obtain⟨o,c',rfl⟩:=hs1.own_shape;obtain⟨n0,n1,n2,n3,nf⟩:=cA (hs1.own 4 rfl) hp;refine⟨o,c',rfl,n1,nf,?_⟩;obtain⟨xs,hxs⟩:∃xs,aR p.2.keys q=xs:=⟨_,rfl⟩;have hsz:xs.length=n:=by have:=da p.2.keys q (by omega);rw [hxs]at this;omega
 rw [hxs]at hs1 ⊢;exact TreeS.set_keys hp (by unfold dm;rw [hsz];exact hs1)
theorem TreeS.ins_vals {bx b q:Nat}{p:NP}{x:VT}(h:TreeS B D w t (.slice (some ⟨g,0,none⟩) N c) fv ns fr k (blk bx (dS x).toArray tW::l))(hp:ns[b]?=some p)(hq:q≤p.2.vals.length)(hb:(p.2.vals.length+1)*24≤140737488355328) :
  Calls Tryz.prog 123 #[p.1.vv,.int .i64 q,.slice (some ⟨bx,0,none⟩) 1 1] w fun e w'=>∃o c',e = .returned (.slice o (p.2.vals.length+1) c')∧w'.cell? ⟨g,b*4+2,none⟩=some p.1.vv∧(∀j,w'.frozen? ⟨g,j,none⟩=false) ∧
   TreeS B D (w'.setCell ⟨g,b*4+2,none⟩ (.slice o (p.2.vals.length+1) c')) t (.slice (some ⟨g,0,none⟩) N c) fv (ns.set b (⟨p.1.kv,(.slice o (p.2.vals.length+1) c'),p.1.dv⟩,{ p.2 with vals:=aT p.2.vals q x })) fr k l:=by
 refine(m9 (i:=q) hq (kV x) (vone x) bx hb (h.for_vals hp)).mono ?_;rintro e w' ⟨v',rfl,hs⟩;have hs1:=hs.swap.drop;obtain⟨o,c',rfl⟩:=hs1.own_shape;obtain⟨n0,n1,n2,n3,nf⟩:=cA (hs1.own 4 rfl) hp;refine⟨o,c',rfl,n2,nf,?_⟩;rw [dq kV]at hs1;obtain⟨xs,hxs⟩:∃xs,aT p.2.vals q x=xs:=⟨_,rfl⟩;have hsz:xs.length=p.2.vals.length+1:=by rw [←hxs];exact bQ _ _ _
 rw [hxs]at hs1 ⊢;rw [←hsz]at hs1 ⊢;exact TreeS.set_vals hp hs1
theorem TreeS.del_vals {b q n:Nat}{p:NP}(h:TreeS B D w t (.slice (some ⟨g,0,none⟩) N c) fv ns fr k l)(hp:ns[b]?=some p)(hn:p.2.vals.length=n+1)(hq:q≤n) :
  Calls Tryz.prog 120 #[p.1.vv,.int .i64 q,.int .i64 (q+1)] w fun e w'=>∃o c',e = .returned (.slice o n c')∧w'.cell? ⟨g,b*4+2,none⟩=some p.1.vv∧(∀j,w'.frozen? ⟨g,j,none⟩=false) ∧
   TreeS B D (w'.setCell ⟨g,b*4+2,none⟩ (.slice o n c')) t (.slice (some ⟨g,0,none⟩) N c) fv (ns.set b (⟨p.1.kv,(.slice o n c'),p.1.dv⟩,{ p.2 with vals:=aR p.2.vals q })) fr k l:=by
 have hf:=h.focus hp;have hf:=hf.swap;unfold dl at hf;rw [hn]at hf;refine(mF (i:=q) (n:=n) (fG kV p.2.vals q).symm hq hf).mono ?_;rintro e w' ⟨v',rfl,hs1⟩;obtain⟨o,c',rfl⟩:=hs1.own_shape;obtain⟨n0,n1,n2,n3,nf⟩:=cA (hs1.own 4 rfl) hp;refine⟨o,c',rfl,n2,nf,?_⟩;obtain⟨xs,hxs⟩:∃xs,aR p.2.vals q=xs:=⟨_,rfl⟩;have hsz:xs.length=n:=by have:=da p.2.vals q (by omega);rw [hxs]at this;omega
 rw [hxs]at hs1 ⊢;exact TreeS.set_vals hp (by unfold dl;rw [hsz];exact hs1)
theorem TreeS.ins_kids {bx b q:Nat}{p:NP}{x:Nat}(h:TreeS B D w t (.slice (some ⟨g,0,none⟩) N c) fv ns fr k (blk bx (ncells x).toArray tI::l))(hp:ns[b]?=some p)(hq:q≤p.2.kids.length)(hb:(p.2.kids.length+1)*8≤140737488355328) :
  Calls Tryz.prog 127 #[p.1.dv,.int .i64 q,.slice (some ⟨bx,0,none⟩) 1 1] w fun e w'=>∃o c',e = .returned (.slice o (p.2.kids.length+1) c')∧w'.cell? ⟨g,b*4+3,none⟩=some p.1.dv∧(∀j,w'.frozen? ⟨g,j,none⟩=false) ∧
   TreeS B D (w'.setCell ⟨g,b*4+3,none⟩ (.slice o (p.2.kids.length+1) c')) t (.slice (some ⟨g,0,none⟩) N c) fv (ns.set b (⟨p.1.kv,p.1.vv,(.slice o (p.2.kids.length+1) c')⟩,{ p.2 with kids:=aT p.2.kids q x })) fr k l:=by
 refine(jC (i:=q) hq (jE x) (vN x) bx hb (h.for_kids hp)).mono ?_;rintro e w' ⟨v',rfl,hs⟩;have hs1:=hs.swap.drop;obtain⟨o,c',rfl⟩:=hs1.own_shape;obtain⟨n0,n1,n2,n3,nf⟩:=cA (hs1.own 4 rfl) hp;refine⟨o,c',rfl,n3,nf,?_⟩;rw [dq jE]at hs1;obtain⟨xs,hxs⟩:∃xs,aT p.2.kids q x=xs:=⟨_,rfl⟩;have hsz:xs.length=p.2.kids.length+1:=by rw [←hxs];exact bQ _ _ _
 rw [hxs]at hs1 ⊢;rw [←hsz]at hs1 ⊢;exact TreeS.set_kids hp hs1
theorem TreeS.del_kids {b q n:Nat}{p:NP}(h:TreeS B D w t (.slice (some ⟨g,0,none⟩) N c) fv ns fr k l)(hp:ns[b]?=some p)(hn:p.2.kids.length=n+1)(hq:q≤n) :
  Calls Tryz.prog 144 #[p.1.dv,.int .i64 q,.int .i64 (q+1)] w fun e w'=>∃o c',e = .returned (.slice o n c')∧w'.cell? ⟨g,b*4+3,none⟩=some p.1.dv∧(∀j,w'.frozen? ⟨g,j,none⟩=false) ∧
   TreeS B D (w'.setCell ⟨g,b*4+3,none⟩ (.slice o n c')) t (.slice (some ⟨g,0,none⟩) N c) fv (ns.set b (⟨p.1.kv,p.1.vv,(.slice o n c')⟩,{ p.2 with kids:=aR p.2.kids q })) fr k l:=by
 have hf:=h.focus hp;have hf:=hf.front 2 rfl;simp only [List.eraseIdx_cons_succ,List.eraseIdx_cons_zero]at hf;unfold be at hf;rw [hn]at hf;refine(rL (i:=q) (n:=n) (fG jE p.2.kids q).symm hq hf).mono ?_;rintro e w' ⟨v',rfl,hs1⟩;obtain⟨o,c',rfl⟩:=hs1.own_shape;obtain⟨n0,n1,n2,n3,nf⟩:=cA (hs1.own 4 rfl) hp;refine⟨o,c',rfl,n3,nf,?_⟩;obtain⟨xs,hxs⟩:∃xs,aR p.2.kids q=xs:=⟨_,rfl⟩;have hsz:xs.length=n:=by have:=da p.2.kids q (by omega);rw [hxs]at this;omega
 rw [hxs]at hs1 ⊢;exact TreeS.set_kids hp (by unfold be;rw [hsz];exact hs1)
end
structure Tri (ns0 ns:List NP)(i a b:Nat)(pi pa pb:NP):Prop where
 hi:ns[i]?=some pi
 ha:ns[a]?=some pa
 hb:ns[b]?=some pb
 oth:∀z,z≠i→z≠a→z≠b→ns[z]?=ns0[z]?
 len:ns.length=ns0.length
 ia:i≠a
 ib:i≠b
 ab:a≠b
section
variable {ns0 ns : List NP} {i a b : Nat} {pi pa pb p' : NP}
theorem Tri.lt (h:Tri ns0 ns i a b pi pa pb):i<ns0.length∧a<ns0.length∧b<ns0.length :=
 ⟨h.len▸(FO.1 h.hi).1,h.len▸(FO.1 h.ha).1,h.len▸(FO.1 h.hb).1⟩
theorem Tri.set_i (h:Tri ns0 ns i a b pi pa pb)(p':NP):Tri ns0 (ns.set i p') i a b p' pa pb :=
 ⟨bW h.hi,bM h.ia h.ha,bM h.ib h.hb,fun z h1 h2 h3=>by rw [F8 (Ne.symm h1)];exact h.oth z h1 h2 h3,by rw [FV,h.len],h.ia,h.ib,h.ab⟩
theorem Tri.set_a (h:Tri ns0 ns i a b pi pa pb)(p':NP):Tri ns0 (ns.set a p') i a b pi p' pb :=
 ⟨bM (Ne.symm h.ia) h.hi,bW h.ha,bM h.ab h.hb,fun z h1 h2 h3=>by rw [F8 (Ne.symm h2)];exact h.oth z h1 h2 h3,by rw [FV,h.len],h.ia,h.ib,h.ab⟩
theorem Tri.set_b (h:Tri ns0 ns i a b pi pa pb)(p':NP):Tri ns0 (ns.set b p') i a b pi pa p' :=
 ⟨bM (Ne.symm h.ib) h.hi,bM (Ne.symm h.ab) h.ha,bW h.hb,fun z h1 h2 h3=>by rw [F8 (Ne.symm h3)];exact h.oth z h1 h2 h3,by rw [FV,h.len],h.ia,h.ib,h.ab⟩
def TM.tri (T:TM)(i a b:Nat)(mi ma mb:NodeM):TM:={ T with nodes:=((T.nodes.set i mi).set a ma).set b mb }
theorem Tri.done (h:Tri ns0 ns i a b pi pa pb){T:TM}(h0:ns0.map Prod.snd=T.nodes):ns.map Prod.snd=(T.tri i a b pi.2 pa.2 pb.2).nodes:=by
 obtain⟨l1,l2,l3⟩:=h.lt;unfold TM.tri;dsimp only;rw [←h0];refine List.ext_getElem? (fun z=>?_);rw [Gg];by_cases hb:z=b
 ·subst hb
  rw [h.hb,FX (by simp;omega)];rfl
 ·rw [F8 (Ne.symm hb)]
  by_cases ha:z=a
  ·subst ha
   rw [h.ha,FX (by simp;omega)];rfl
  ·rw [F8 (Ne.symm ha)]
   by_cases hi:z=i
   ·subst hi
    rw [h.hi,FX (by simp;omega)];rfl
   ·rw [F8 (Ne.symm hi),h.oth z hi ha hb,Gg]
end
theorem TreeS.key_set {B w:World}{D:PH}{t N g c kg nk ck:Nat}{fv:Value}{ns:List NP}{fr:List Nat}{k:Num}{l:List HP}(h:TreeS B D w t (.slice (some ⟨g,0,none⟩) N c) fv ns fr k l){i:Nat}{p:NP}(hi:ns[i]?=some p)(hk:p.1.kv = .slice (some ⟨kg,0,none⟩) nk ck)(j:Nat)(x:Val)(hj:j<p.2.keys.length) :
  TreeS B D (((w.setCell ⟨kg,j*3,none⟩ (.bool x.t)).setCell ⟨kg,j*3+1,none⟩ (.int .i64 x.n)).setCell ⟨kg,j*3+2,none⟩ (.string x.s)) t (.slice (some ⟨g,0,none⟩) N c) fv (ns.set i (p.1,{ p.2 with keys:=p.2.keys.set j x })) fr k l:=by
 obtain rfl:=dE (Sat.own h 1 rfl);have h1:=(h.focus hi);rw [hk]at h1;obtain⟨_,_,hv,hc,_⟩:=(h1.own 0 rfl).rd.2.2;cases hv;have h2:=((h1.own_set (j*3) (.bool x.t) rfl).own_set (j*3+1) (.int .i64 x.n) rfl).own_set (j*3+2) (.string x.s) rfl;have e:∀(ks:List Val) (j:Nat),j<ks.length→((((ks.flatMap Val.cells).set (j*3) (.bool x.t)).set (j*3+1) (.int .i64 x.n)).set (j*3+2) (.string x.s))=(ks.set j x).flatMap Val.cells:=by
  intro ks
  induction ks with
  | nil=>intro j hj;simp at hj
  | cons y ks ih=>intro j hj;cases j with
   | zero=>simp [Val.cells]
   | succ j =>
    have:=ih j (by simpa using hj);simp only [F1,FJ];rw [←this];have e0:∀(q:Nat) (u:Value) (r:List Value),(y.cells++r).set (q+3) u=y.cells++r.set q u:=by
     intro q u r;simp [Val.cells]
    rw [show(j+1)*3=j*3+3 by omega,show j*3+3+1=(j*3+1)+3 by omega,show j*3+3+2=(j*3+2)+3 by omega,e0,e0,e0]
 rw [e _ _ hj]at h2;have e2:(p.2.keys.set j x).length=p.2.keys.length:=FV;have h3:(ns.set i (p.1,{ p.2 with keys:=p.2.keys.set j x })).flatMap aG=ns.flatMap aG:=by
  have hlt:=(FO.1 hi).1;have:=dY 0 p (p.1,{ p.2 with keys:=p.2.keys.set j x }) (.bool p.2.leaf) (by omega) rfl ns i hi;rw [←this,Nat.add_zero];refine List.ext_getElem? (fun q=>?_);by_cases hq:q=i*4
  ·subst hq
   rw [FX (by rw [cH fm];omega)];have:=bB fm ns i p hi 0 _ rfl;rw [Nat.add_zero]at this;exact this.symm
  ·rw [F8 (fun h=>hq h.symm)]
 refine TreeS.unfocus (p':=(p.1,{ p.2 with keys:=p.2.keys.set j x })) hi ?_;rw [h3,hk];unfold dm;dsimp only;rw [e2];exact h2
theorem infoW : (Tryz.prog.info? tW).map (fun i=>(i.zero,i.size,i.bytes))=some (some (.slice none 0 0),1,24):=by kernel_rfl
theorem wj : (Tryz.prog.info? tV).map (fun i=>(i.zero,i.size,i.bytes))=some (some (.agg #[.bool false,.int .i64 0,.string ⟨#[]⟩]),3,32):=by kernel_rfl
theorem lH {w:World}{bx:Nat}{cs:List Value}{t:TypeId}{size:Nat}(h:w.heap[bx]?=some (.cells cs.toArray t (0,0)))(hl:cs.length=size):Rd w size (.slice (some ⟨bx,0,none⟩) 1 1) 1 cs:=by
 have:=bC (n:=1) (size:=size) h (by simpa using hl) (by unfold maxLen;omega)
 simpa using this
section
variable {B w : World} {D : PH} {t g c N : Nat} {fv : Value} {ns : List NP} {fr : List Nat} {k : Num} {l : List HP}
theorem dy {ops:Array Oper}{rest:List Oper}{o:Oper}{a:Act}{Q:Exit→Act→World→Prop}(hgd:o.guard=none)(s x:Operand)
  (ho:o.op = .call { callee:=.builtin .append,args:=#[s,x],argTypes:=#[25,25] })
  {b:Nat} {p:NP} {new:List Val} {xv:Value} (h:TreeS B D w t (.slice (some ⟨g,0,none⟩) N c) fv ns fr k l) (hp:ns[b]?=some p) (hv:a.eval s=p.1.kv) (hx:a.eval x=xv) (hrd:Rd w 3 xv new.length (new.flatMap Val.cells)) (hb:p.2.keys.length+new.length≤10000)
  (K:∀u c' w',w'.cell? ⟨g,b*4+1,none⟩=some p.1.kv→(∀j,w'.frozen? ⟨g,j,none⟩=false) →
   TreeS B D (w'.setCell ⟨g,b*4+1,none⟩ (.slice u (p.2.keys.length+new.length) c')) t (.slice (some ⟨g,0,none⟩) N c) fv (ns.set b (⟨(.slice u (p.2.keys.length+new.length) c'),p.1.vv,p.1.dv⟩,{ p.2 with keys:=p.2.keys++new })) fr k l→wpList Tryz.prog ops Q rest (a.put o.dst (.slice u (p.2.keys.length+new.length) c')) w'):wpList Tryz.prog ops Q (o::rest) a w:=by
 obtain⟨i0,hinf,hz0,hz1,hz2⟩:=info_parts wj;have hf:=h.focus hp;unfold dm at hf;refine az _ hgd s x 25 ho tV i0 _ 3 32 Tryz.underlying25 hinf hz0 hz1 hz2 rfl _ _ _ hv hf xv new.length (new.flatMap Val.cells) hx hrd (fun u hu=>?_) (by unfold maxLen;omega) (by omega) ?_
 ·obtain⟨y,_,hy⟩:=Gi.1 hu
  exact Val.one y u hy
 intro v2 w2 h2 h2o;obtain⟨u,c',rfl⟩:=h2.own_shape;obtain⟨n0,n1,n2,n3,nf⟩:=cA (h2.own 4 rfl) hp;refine K u c' w2 n1 nf ?_;obtain⟨xs,hxs⟩:∃xs,p.2.keys++new=xs:=⟨_,rfl⟩;have hsz:xs.length=p.2.keys.length+new.length:=by rw [←hxs,FR]
 rw [←FT,hxs,←hsz]at h2;rw [hxs,←hsz];exact TreeS.set_keys hp h2
theorem eY {ops:Array Oper}{rest:List Oper}{o:Oper}{a:Act}{Q:Exit→Act→World→Prop}(hgd:o.guard=none)(s x:Operand)
  (ho:o.op = .call { callee:=.builtin .append,args:=#[s,x],argTypes:=#[55,55] })
  {b:Nat} {p:NP} {new:List VT} {xv:Value} (h:TreeS B D w t (.slice (some ⟨g,0,none⟩) N c) fv ns fr k l) (hp:ns[b]?=some p) (hv:a.eval s=p.1.vv) (hx:a.eval x=xv) (hrd:Rd w 1 xv new.length (new.flatMap dS)) (hb:p.2.vals.length+new.length≤10000)
  (K:∀u c' w',w'.cell? ⟨g,b*4+2,none⟩=some p.1.vv→(∀j,w'.frozen? ⟨g,j,none⟩=false) →
   TreeS B D (w'.setCell ⟨g,b*4+2,none⟩ (.slice u (p.2.vals.length+new.length) c')) t (.slice (some ⟨g,0,none⟩) N c) fv (ns.set b (⟨p.1.kv,(.slice u (p.2.vals.length+new.length) c'),p.1.dv⟩,{ p.2 with vals:=p.2.vals++new })) fr k l→wpList Tryz.prog ops Q rest (a.put o.dst (.slice u (p.2.vals.length+new.length) c')) w'):wpList Tryz.prog ops Q (o::rest) a w:=by
 obtain⟨i0,hinf,hz0,hz1,hz2⟩:=info_parts infoW;have hf:=h.focus hp;have hf:=hf.swap;unfold dl at hf;refine az _ hgd s x 55 ho tW i0 _ 1 24 Tryz.underlying55 hinf hz0 hz1 hz2 rfl _ _ _ hv hf xv new.length (new.flatMap dS) hx hrd (fun u hu=>?_) (by unfold maxLen;omega) (by omega) ?_
 ·obtain⟨y,_,hy⟩:=Gi.1 hu
  exact vone y u hy
 intro v2 w2 h2 h2o;obtain⟨u,c',rfl⟩:=h2.own_shape;obtain⟨n0,n1,n2,n3,nf⟩:=cA (h2.own 4 rfl) hp;refine K u c' w2 n2 nf ?_;obtain⟨xs,hxs⟩:∃xs,p.2.vals++new=xs:=⟨_,rfl⟩;have hsz:xs.length=p.2.vals.length+new.length:=by rw [←hxs,FR]
 rw [←FT,hxs,←hsz]at h2;rw [hxs,←hsz];exact TreeS.set_vals hp h2
theorem fe {ops:Array Oper}{rest:List Oper}{o:Oper}{a:Act}{Q:Exit→Act→World→Prop}(hgd:o.guard=none)(s x:Operand)
  (ho:o.op = .call { callee:=.builtin .append,args:=#[s,x],argTypes:=#[117,117] })
  {b:Nat} {p:NP} {new:List Nat} {xv:Value} (h:TreeS B D w t (.slice (some ⟨g,0,none⟩) N c) fv ns fr k l) (hp:ns[b]?=some p) (hv:a.eval s=p.1.dv) (hx:a.eval x=xv) (hrd:Rd w 1 xv new.length (new.flatMap ncells)) (hb:p.2.kids.length+new.length≤10000)
  (K:∀u c' w',w'.cell? ⟨g,b*4+3,none⟩=some p.1.dv→(∀j,w'.frozen? ⟨g,j,none⟩=false) →
   TreeS B D (w'.setCell ⟨g,b*4+3,none⟩ (.slice u (p.2.kids.length+new.length) c')) t (.slice (some ⟨g,0,none⟩) N c) fv (ns.set b (⟨p.1.kv,p.1.vv,(.slice u (p.2.kids.length+new.length) c')⟩,{ p.2 with kids:=p.2.kids++new })) fr k l→wpList Tryz.prog ops Q rest (a.put o.dst (.slice u (p.2.kids.length+new.length) c')) w'):wpList Tryz.prog ops Q (o::rest) a w:=by
 obtain⟨i0,hinf,hz0,hz1,hz2⟩:=info_parts infoI;have hf:=h.focus hp;have hf:=hf.front 2 rfl;simp only [List.eraseIdx_cons_succ,List.eraseIdx_cons_zero]at hf;unfold be at hf;refine az _ hgd s x 117 ho tI i0 _ 1 8 Tryz.underlying117 hinf hz0 hz1 hz2 rfl _ _ _ hv hf xv new.length (new.flatMap ncells) hx hrd (fun u hu=>?_) (by unfold maxLen;omega) (by omega) ?_
 ·obtain⟨y,_,hy⟩:=Gi.1 hu
  exact vN y u hy
 intro v2 w2 h2 h2o;obtain⟨u,c',rfl⟩:=h2.own_shape;obtain⟨n0,n1,n2,n3,nf⟩:=cA (h2.own 4 rfl) hp;refine K u c' w2 n3 nf ?_;obtain⟨xs,hxs⟩:∃xs,p.2.kids++new=xs:=⟨_,rfl⟩;have hsz:xs.length=p.2.kids.length+new.length:=by rw [←hxs,FR]
 rw [←FT,hxs,←hsz]at h2;rw [hxs,←hsz];exact TreeS.set_kids hp h2
end
theorem j6 {w:World}{g n c i x:Nat}{vs:List Nat}(h:Rd w 1 (.slice (some ⟨g,0,none⟩) n c) n (vs.flatMap ncells))(hi:vs[i]?=some x):w.cell? ⟨g,i,none⟩=some (.int .i64 x):=by
 have hlt:=(FO.1 hi).1;rcases h.2.2 with ⟨_,_,hv,_,_,_,hcell⟩
 cases hv;rcases hcell with h0|⟨_,_,hg,hc⟩
 ·have:=h.1
  rw [cH jE]at this;omega
 ·cases hg
  have:=hc _ _ (bB jE vs i x hi 0 _ rfl)
  simpa using this
theorem nr {B w:World}{D:PH}{t:Nat}{T:TM}{l:List HP}{i C a b q:Nat}{mi mx my:NodeM}{xk sk:Val}{xv:VT}(hi:T.nodes[i]?=some mi)(hx:T.nodes[a]?=some mx)(hy:T.nodes[b]?=some my)(hia:i≠a)(hib:i≠b)(hab:a≠b)(hca:mi.kids[C]?=some a)(hcb:mi.kids[C+1]?=some b)(hkC:C<mi.keys.length)(hmb:mi.kids.length≤1000)(hlx:my.leaf=true)(hxl:mx.keys.length=q+1)(hxv:mx.vals.length=q+1)(hyv:my.vals.length=my.keys.length)(hxb:q≤1000)(hyb:my.keys.length≤1000)
  (hxk:mx.keys[q]?=some xk) (hxvv:mx.vals[q]?=some xv) (hsk:mi.keys[C]?=some sk) (h:TreeA B D w t T l) :
  Calls Tryz.prog 132 #[.pointer (some ⟨t,0,none⟩),.int .i64 i,.int .i64 ((C+1:Nat):Int)] w fun e w'=>e = .returned (.tuple #[]) ∧
   TreeA B D w' t (T.tri i a b { mi with keys:=mi.keys.set C xk } { mx with keys:=mx.keys.take q,vals:=mx.vals.take q } { my with keys:=aT my.keys 0 xk,vals:=aT my.vals 0 xv }) l:=by
 obtain⟨nv,fv,ns,hns,hs⟩:=h;obtain⟨⟨ikv,ivv,idv⟩,hpi⟩:=aK hns hi;obtain⟨⟨xkv,xvv,xdv⟩,hpx⟩:=aK hns hx;obtain⟨⟨ykv,yvv,ydv⟩,hpy⟩:=aK hns hy;have hTr:Tri ns ns i a b _ _ _:=⟨hpi,hpx,hpy,fun _ _ _ _=>rfl,rfl,hia,hib,hab⟩;obtain⟨lt1,lt2,lt3⟩:=hTr.lt;obtain⟨g,cn,rfl,_,hcm⟩:=hs.nv_some (by omega);unfold maxLen at hcm;have hclt:=(FO.1 hcb).1;obtain⟨ikg,ikc,hikv,hikc,_⟩:=aF (Sat.own (hs.focus hpi) 0 rfl) (by show 0<mi.keys.length;omega);obtain⟨idg,idc,hidv,_,_⟩:=aF (Sat.own (hs.focus hpi) 2 rfl) (by show 0<mi.kids.length;omega);obtain⟨xkg,xkc,hxkv,hxkc,hxkc2⟩:=aF (Sat.own (hs.focus hpx) 0 rfl) (by show 0<mx.keys.length;omega);obtain⟨xvg,xvc,hxvv2,hxvc,hxvc2⟩:=aF (Sat.own (hs.focus hpx) 1 rfl) (by show 0<mx.vals.length;omega);obtain⟨yko,ykc,hykv⟩:=(hs.focus hpy).own_shape;obtain⟨yvo,yvc,hyvv⟩:=(hs.focus hpy).drop.own_shape;dsimp only at hikv hidv hxkv hxvv2 hykv hyvv hikc hxkc hxvc;rw [hxl]at hxkv hxkc;rw [hxv]at hxvv2 hxvc;rw [hyv]at hyvv;subst hikv hidv hxkv hxvv2 hykv hyvv;have hqkc:(q:Int)≤(xkc:Int):=by omega
 have hqvc:(q:Int)≤(xvc:Int):=by omega
 generalize hN:ns.length=N at *;have hib1:(i:Int)<(N:Int):=by omega
 have hab1:(a:Int)<(N:Int):=by omega
 have hbb1:(b:Int)<(N:Int):=by omega
 have hC1:(C:Int)<(mi.kids.length:Int):=by omega
 have hC2:(C:Int)+1<(mi.kids.length:Int):=by omega
 have hC3:(C:Int)<(mi.keys.length:Int):=by omega
 have hwC:IntKind.i64.wrap ((C:Int)+1-1)=(C:Int):=by rw [cq _ (by omega) (by omega)];omega
 have hwC0:IntKind.i64.wrap (C:Int)=(C:Int):=cq _ (by omega) (by omega);have hwq0:IntKind.i64.wrap (q:Int)=(q:Int):=cq _ (by omega) (by omega);have hwC1:IntKind.i64.wrap ((C:Int)+1)=(C:Int)+1:=cq _ (by omega) (by omega);have hwC2:IntKind.i64.wrap ((C:Int)+2)=(C:Int)+1+1:=by rw [cq _ (by omega) (by omega)];omega
 have hwq:IntKind.i64.wrap ((q:Int)+1-1)=(q:Int):=by rw [cq _ (by omega) (by omega)];omega
 have hwq1:IntKind.i64.wrap ((q:Int)+1)=(q:Int)+1:=cq _ (by omega) (by omega);have hqi:(q:Int)<(q:Int)+1:=by omega
 have hq01:0≤(q:Int)+1:=by omega
 have hC01:0≤(C:Int)+1:=by omega
 obtain⟨t0,t1,t2,t3,t4,tf⟩:=hs.tcells;obtain⟨i0,i1,i2,i3,nf⟩:=hs.node_cells hTr.hi;obtain⟨x0,x1,x2,x3,_⟩:=hs.node_cells hTr.ha;obtain⟨y0,y1,y2,y3,_⟩:=hs.node_cells hTr.hb;have hca1:=bD (hs.kids_rd hpi) hca;have hcb1:=bD (hs.kids_rd hpi) hcb;dsimp only at i0 i1 i2 i3 x0 x1 x2 x3 y0 y1 y2 y3 hca1 hcb1;have HS:=FH hs;have HT:=FH hTr;have xr:=FH hns;have zg:=FH hlx;have xU:=FH hxl;have BZ:=FH hxv;have zT:=FH hyv;have Du:=FH hxk;have AP:=FH hxvv;have zY:=FH hsk;clear hlx hxl hxv hyv hxk hxvv hsk;clear hs hTr hns hi hx hy hia hib hab hca hcb hpi hpx hpy hN
 push_cast
 go_enter Tryz.func132,Tryz.ntmps132;go_upto_region 1 with (fail)
 go_quiet (fail)
 have hs1:=HS.out.kept ((Kept.refl (fun _=>False) w).drewN nq);obtain⟨W1,hW1⟩:∃W1,W1=w.drewN nq:=⟨_,rfl⟩;rw [←hW1]at hs1 ⊢;clear hW1 HS t0 t1 t2 t3 t4 tf i0 i1 i2 i3 nf x0 x1 x2 x3 y0 y1 y2 y3 hca1 hcb1;obtain⟨i0,i1,i2,i3,nf⟩:=hs1.node_cells HT.out.hi;obtain⟨x0,x1,x2,x3,_⟩:=hs1.node_cells HT.out.ha;obtain⟨y0,y1,y2,y3,_⟩:=hs1.node_cells HT.out.hb;dsimp only at i0 i1 i2 i3 x0 x1 x2 x3 y0 y1 y2 y3;have wG:=FH hs1;clear hs1;rw [zg.out]at y0;have hrk:=wG.out.keys_rd HT.out.ha;dsimp only at hrk;rw [xU.out]at hrk;obtain⟨k0,k1,k2⟩:=aE hrk Du.out;simp only [Nat.zero_add,Nat.zero_mul]at k0 k1 k2;clear hrk;go_upto_region 4 with (fail)
 refine aH [rq 0 16,rq 1 13,rq 2 13,rq 3 13,rq 4 13,rq 5 12,rq 6 12,rq 7 12,rq 8 12,rq 9 12,rq 10 12,rq 11 12,(12,true,0),(13,true,0),rq 14 16,rq 15 16,(16,true,0)] ?_;iterate 12 (refine ae rfl rfl fun K hK=>?_;go_simp;apply hK;clear hK K)
 refine af rfl ?_;refine wpList_plain rfl fun K hK=>?_;go_simp;refine hK _ _ ?_;clear hK K;refine wpList_nil ?_;have hal:=(wG.out.alloc #[.bool xk.t,.int .i64 xk.n,.string xk.s] tV).drew;obtain⟨W2,hW2,hal⟩:=hal.hide;rw [←hW2];generalize W1.heap.size=bx2 at hal ⊢;clear hW2 wG k0 k1 k2 i0 i1 i2 i3 nf x0 x1 x2 x3 y0 y1 y2 y3;obtain⟨i0,i1,i2,i3,nf⟩:=hal.node_cells HT.out.hi;obtain⟨x0,x1,x2,x3,_⟩:=hal.node_cells HT.out.ha;obtain⟨y0,y1,y2,y3,_⟩:=hal.node_cells HT.out.hb;dsimp only at i0 i1 i2 i3 x0 x1 x2 x3 y0 y1 y2 y3;have hrk:=hal.keys_rd HT.out.ha;dsimp only at hrk;rw [xU.out]at hrk;obtain⟨k0,k1,k2⟩:=aE hrk Du.out;simp only [Nat.zero_add,Nat.zero_mul]at k0 k1 k2;clear hrk;have xI:=FH hal;clear hal;apply And.intro
 ·go_simp
 refine af rfl ?_;refine al rfl fun K hK=>?_;go_simp;refine(TreeS.ins_keys (q:=0) (x:=xk) xI.out HT.out.hb (Gp _) (by show(my.keys.length+1)*32≤_;omega)).mono ?_;rintro e2 w2 ⟨o2,c2,rfl,y1',nf',hs2⟩;obtain⟨ns2,hT2,hs2⟩:∃ns2,Tri ns ns2 i a b (⟨.slice (some ⟨ikg,0,none⟩) mi.keys.length ikc,ivv,.slice (some ⟨idg,0,none⟩) mi.kids.length idc⟩,mi) (⟨.slice (some ⟨xkg,0,none⟩) (q+1) xkc,.slice (some ⟨xvg,0,none⟩) (q+1) xvc,xdv⟩,mx) (⟨.slice o2 (my.keys.length+1) c2,.slice yvo my.keys.length yvc,ydv⟩,{ my with keys:=aT my.keys 0 xk })∧TreeS B D _ t (.slice (some ⟨g,0,none⟩) N cn) fv ns2 T.free T.k l:=⟨_,HT.out.set_b _,hs2⟩;have wJ:=FH hs2;have xn:=FH hT2;clear hs2 hT2 xI k0 k1 k2 i0 i1 i2 i3 nf x0 x1 x2 x3 y0 y1 y2 y3;refine hK _ _ ?_;clear hK K;refine wpList_nil ?_;apply And.intro
 ·go_simp
 iterate 2 (refine ae rfl rfl fun K hK=>?_;go_simp;apply hK;clear hK K)
 refine af rfl ?_;refine wpList_plain rfl fun K hK=>?_;go_simp;refine hK _ _ ?_;clear hK K;refine wpList_nil ?_;apply And.intro
 ·go_simp
 refine ag ?_;go_upto_region 5 with (fail)
 obtain⟨V2,hV2,hs2⟩:=wJ.out.hide;rw [←hV2];clear hV2 wJ y1' nf';obtain⟨i0,i1,i2,i3,nf⟩:=hs2.node_cells xn.out.hi;obtain⟨x0,x1,x2,x3,_⟩:=hs2.node_cells xn.out.ha;obtain⟨y0,y1,y2,y3,_⟩:=hs2.node_cells xn.out.hb;dsimp only at i0 i1 i2 i3 x0 x1 x2 x3 y0 y1 y2 y3;have yz:=FH hs2;clear hs2;have hrk:=yz.out.vals_rd xn.out.ha;dsimp only at hrk;rw [BZ.out]at hrk;have v0:=iV hrk AP.out;simp only [Nat.zero_add,Nat.zero_mul]at v0;clear hrk;go_upto_region 5 with (fail)
 refine aH [rq 0 16,rq 1 13,rq 2 13,rq 3 13,rq 4 13,rq 5 12,rq 6 12,rq 7 12,rq 8 12,rq 9 12,rq 10 12,rq 11 12,(12,true,0),(13,true,0),rq 14 16,rq 15 16,(16,true,0)] ?_;iterate 12 (refine ae rfl rfl fun K hK=>?_;go_simp;apply hK;clear hK K)
 refine af rfl ?_;refine wpList_plain rfl fun K hK=>?_;go_simp;refine hK _ _ ?_;clear hK K;refine wpList_nil ?_;have hal:=(yz.out.alloc #[.slice xv.ro xv.rn xv.rc] tW).drew;obtain⟨W3,hW3,hal⟩:=hal.hide;rw [←hW3];generalize V2.heap.size=bx3 at hal ⊢;clear hW3 yz v0 i0 i1 i2 i3 nf x0 x1 x2 x3 y0 y1 y2 y3;obtain⟨i0,i1,i2,i3,nf⟩:=hal.node_cells xn.out.hi;obtain⟨x0,x1,x2,x3,_⟩:=hal.node_cells xn.out.ha;obtain⟨y0,y1,y2,y3,_⟩:=hal.node_cells xn.out.hb;dsimp only at i0 i1 i2 i3 x0 x1 x2 x3 y0 y1 y2 y3;have hrk:=hal.vals_rd xn.out.ha;dsimp only at hrk;rw [BZ.out]at hrk;have v0:=iV hrk AP.out;simp only [Nat.zero_add,Nat.zero_mul]at v0;clear hrk;have xI:=FH hal;clear hal;apply And.intro
 ·go_simp
 refine af rfl ?_;refine al rfl fun K hK=>?_;go_simp;refine(TreeS.ins_vals (q:=0) (x:=xv) xI.out xn.out.hb (Gp _) (by show(my.vals.length+1)*24≤_;rw [zT.out];omega)).mono ?_;rintro e3 w3 ⟨o3,c3,rfl,y1',nf',hs3⟩;obtain⟨ns3,hT3,hs3⟩:∃ns3,Tri ns ns3 i a b (⟨.slice (some ⟨ikg,0,none⟩) mi.keys.length ikc,ivv,.slice (some ⟨idg,0,none⟩) mi.kids.length idc⟩,mi) (⟨.slice (some ⟨xkg,0,none⟩) (q+1) xkc,.slice (some ⟨xvg,0,none⟩) (q+1) xvc,xdv⟩,mx) (⟨.slice o2 (my.keys.length+1) c2,.slice o3 (my.vals.length+1) c3,ydv⟩,{ my with keys:=aT my.keys 0 xk,vals:=aT my.vals 0 xv })∧TreeS B D _ t (.slice (some ⟨g,0,none⟩) N cn) fv ns3 T.free T.k l:=⟨_,xn.out.set_b _,hs3⟩;have wI:=FH hs3;have xu:=FH hT3;clear hs3 hT3 xI v0 i0 i1 i2 i3 nf x0 x1 x2 x3 y0 y1 y2 y3;refine hK _ _ ?_;clear hK K;refine wpList_nil ?_;apply And.intro
 ·go_simp
 iterate 2 (refine ae rfl rfl fun K hK=>?_;go_simp;apply hK;clear hK K)
 refine af rfl ?_;refine wpList_plain rfl fun K hK=>?_;go_simp;refine hK _ _ ?_;clear hK K;refine wpList_nil ?_;apply And.intro
 ·go_simp
 refine ag ?_;go_upto_region 6 with (fail)
 obtain⟨V3,hV3,hs3⟩:=wI.out.hide;rw [←hV3];clear hV3 wI y1' nf';obtain⟨i0,i1,i2,i3,nf⟩:=hs3.node_cells xu.out.hi;obtain⟨x0,x1,x2,x3,_⟩:=hs3.node_cells xu.out.ha;obtain⟨y0,y1,y2,y3,_⟩:=hs3.node_cells xu.out.hb;dsimp only at i0 i1 i2 i3 x0 x1 x2 x3 y0 y1 y2 y3;have yT:=FH hs3;clear hs3;have hs4:=TreeS.cut_vals (m:=q) yT.out xu.out.ha rfl (by show q≤mx.vals.length;rw [BZ.out];omega);go_upto_region 7 with (fail)
 obtain⟨ns4,hT4,hs4⟩:∃ns4,Tri ns ns4 i a b (⟨.slice (some ⟨ikg,0,none⟩) mi.keys.length ikc,ivv,.slice (some ⟨idg,0,none⟩) mi.kids.length idc⟩,mi) (⟨.slice (some ⟨xkg,0,none⟩) (q+1) xkc,.slice (some ⟨xvg,0,none⟩) q q,xdv⟩,{ mx with vals:=mx.vals.take q }) (⟨.slice o2 (my.keys.length+1) c2,.slice o3 (my.vals.length+1) c3,ydv⟩,{ my with keys:=aT my.keys 0 xk,vals:=aT my.vals 0 xv })∧TreeS B D _ t (.slice (some ⟨g,0,none⟩) N cn) fv ns4 T.free T.k l:=⟨_,xu.out.set_a _,hs4⟩;have xK:=FH hT4;clear hT4;obtain⟨V4,hV4,hs4⟩:=hs4.hide;rw [←hV4];clear hV4 yT i0 i1 i2 i3 nf x0 x1 x2 x3 y0 y1 y2 y3;obtain⟨i0,i1,i2,i3,nf⟩:=hs4.node_cells xK.out.hi;obtain⟨x0,x1,x2,x3,_⟩:=hs4.node_cells xK.out.ha;obtain⟨y0,y1,y2,y3,_⟩:=hs4.node_cells xK.out.hb;dsimp only at i0 i1 i2 i3 x0 x1 x2 x3 y0 y1 y2 y3;have za:=FH hs4;clear hs4;obtain⟨ykg,ykc2,hyk2,_,_⟩:=aF (Sat.own (za.out.focus xK.out.hb) 0 rfl) (by show 0<(aT my.keys 0 xk).length;rw [bQ];omega);dsimp only at hyk2;rw [bQ]at hyk2;rw [Value.slice.injEq]at hyk2;obtain⟨rfl,-,rfl⟩:=hyk2;have hy0:(0:Int)<(my.keys.length:Int)+1:=by omega
 have hro:=Sat.own (za.out.focus xK.out.hi) 0 rfl;dsimp only at hro;obtain⟨_,_,hrr⟩:=hro.row;have pf:=hrr.frozen;clear hro hrr;have hrk:=za.out.keys_rd xK.out.hb;dsimp only at hrk;rw [bQ]at hrk;obtain⟨k0,k1,k2⟩:=aE hrk (show(aT my.keys 0 xk)[0]?=some xk by simp [aT]);simp only [Nat.zero_add,Nat.zero_mul]at k0 k1 k2;clear hrk;have hrk:=za.out.keys_rd xK.out.hi;dsimp only at hrk;obtain⟨j0,j1,j2⟩:=aE hrk zY.out;simp only [Nat.zero_add,Nat.zero_mul]at j0 j1 j2;clear hrk;go_upto_region 7 with (fail)
 have hs5:=(za.out.key_set xK.out.hi rfl C xk (by show C<mi.keys.length;omega)).drew;obtain⟨ns5,hT5,hs5⟩:∃ns5,Tri ns ns5 i a b (⟨.slice (some ⟨ikg,0,none⟩) mi.keys.length ikc,ivv,.slice (some ⟨idg,0,none⟩) mi.kids.length idc⟩,{ mi with keys:=mi.keys.set C xk }) (⟨.slice (some ⟨xkg,0,none⟩) (q+1) xkc,.slice (some ⟨xvg,0,none⟩) q q,xdv⟩,{ mx with vals:=mx.vals.take q }) (⟨.slice (some ⟨ykg,0,none⟩) (my.keys.length+1) c2,.slice o3 (my.vals.length+1) c3,ydv⟩,{ my with keys:=aT my.keys 0 xk,vals:=aT my.vals 0 xv })∧TreeS B D _ t (.slice (some ⟨g,0,none⟩) N cn) fv ns5 T.free T.k l:=⟨_,xK.out.set_i _,hs5⟩;have wT:=FH hs5;have xC:=FH hT5;clear hs5 hT5;refine aH [rq 0 13,rq 1 13,rq 2 13,rq 3 13,rq 4 13,rq 5 13,rq 6 13,rq 7 13,rq 8 13,rq 9 13,rq 10 13,rq 11 13,rq 12 13,(13,true,0)] ?_;iterate 13 (refine ae rfl rfl fun K hK=>?_;go_simp;apply hK;clear hK K)
 refine af rfl ?_;refine wpList_plain rfl fun K hK=>?_;go_simp;refine hK _ _ ?_;clear hK K;refine wpList_nil ?_;apply And.intro
 ·go_simp
 refine ag ?_;clear za k0 k1 k2 j0 j1 j2 pf i0 i1 i2 i3 nf x0 x1 x2 x3 y0 y1 y2 y3;go_upto_region 12 with (fail)
 obtain⟨V5,hV5,hs5⟩:=wT.out.hide;rw [←hV5];clear hV5 wT;obtain⟨i0,i1,i2,i3,nf⟩:=hs5.node_cells xC.out.hi;obtain⟨x0,x1,x2,x3,_⟩:=hs5.node_cells xC.out.ha;obtain⟨y0,y1,y2,y3,_⟩:=hs5.node_cells xC.out.hb;dsimp only at i0 i1 i2 i3 x0 x1 x2 x3 y0 y1 y2 y3;have zz:=FH hs5;clear hs5;have hs6:=TreeS.cut_keys (m:=q) zz.out xC.out.ha rfl (by show q≤mx.keys.length;rw [xU.out];omega);go_wp2_with (fail);obtain⟨ns6,hT6,hs6⟩:∃ns6,Tri ns ns6 i a b (⟨.slice (some ⟨ikg,0,none⟩) mi.keys.length ikc,ivv,.slice (some ⟨idg,0,none⟩) mi.kids.length idc⟩,{ mi with keys:=mi.keys.set C xk }) (⟨.slice (some ⟨xkg,0,none⟩) q q,.slice (some ⟨xvg,0,none⟩) q q,xdv⟩,{ mx with vals:=mx.vals.take q,keys:=mx.keys.take q }) (⟨.slice (some ⟨ykg,0,none⟩) (my.keys.length+1) c2,.slice o3 (my.vals.length+1) c3,ydv⟩,{ my with keys:=aT my.keys 0 xk,vals:=aT my.vals 0 xv })∧TreeS B D _ t (.slice (some ⟨g,0,none⟩) N cn) fv ns6 T.free T.k l:=⟨_,xC.out.set_a _,hs6⟩;have zA:=FH hT6;clear hT6;go_end0;exact⟨rfl,_,_,_,zA.out.done xr.out,hs6⟩
end Go.Proofs.YtdobimafhbfkhaaGreat
