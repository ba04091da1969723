/- Of no program: slices of elements as lists of cells; a slice argument as it reads, and what follows. -/
import Derived.Test.YtdobimafhbfkhaaGreatOY1
import Derived.Deep.Slices
import Derived.Deep.Strs
import Derived.SizedLaws
namespace Go.Proofs.YtdobimafhbfkhaaGreat
open Go.ChangeShapes Go.WideShapes Go.ChangeAt Go.RowKit Go.Deep
theorem cH {α:Type}{f:α→List Value}{size:Nat}(hf:∀x,(f x).length=size)(l:List α):(l.flatMap f).length=l.length*size:=by
 induction l with
 | nil=>simp
 | cons x l ih=>rw [F1,FR,hf,ih,List.length_cons,Nat.succ_mul];omega
theorem bB {α:Type}{f:α→List Value}{size:Nat}(hf:∀x,(f x).length=size):∀(l:List α) (i:Nat) (x:α),l[i]?=some x→∀(j:Nat) (u:Value),(f x)[j]?=some u→(l.flatMap f)[i*size+j]?=some u
 | [],i,x,h,_,_,_=>by simp at h
 | y::l,i,x,h,j,u,hu=>by
  rw [F1];have hj:j<size:=by rw [←hf x];exact(FO.1 hu).1
  cases i with
  | zero =>
   simp only [List.getElem?_cons_zero,Option.some.injEq]at h;subst h;rw [Nat.zero_mul,Nat.zero_add,Gm (by rw [hf];exact hj)];exact hu
  | succ i =>
   rw [Gb (by rw [hf,Nat.succ_mul];omega),hf,Nat.succ_mul,show i*size+size+j-size=i*size+j by omega];exact bB hf l i x (by simpa using h) j u hu
theorem fw {α:Type}{f:α→List Value}{size:Nat}(hf:∀x,(f x).length=size):∀(l:List α) (n:Nat),(l.flatMap f).take (n*size)=(l.take n).flatMap f
 | [],n=>by simp
 | y::l,0=>by simp
 | y::l,n+1=>by
  rw [F1,List.take_succ_cons,F1,List.take_append,hf,Nat.succ_mul,FS (by rw [hf];omega),show n*size+size-size=n*size by omega,fw hf l n]
theorem gr {α:Type}{f:α→List Value}{size:Nat}(hf:∀x,(f x).length=size):∀(l:List α) (n:Nat),(l.flatMap f).drop (n*size)=(l.drop n).flatMap f
 | [],n=>by simp
 | y::l,0=>by simp
 | y::l,n+1=>by
  rw [F1,List.drop_succ_cons,List.drop_append,hf,Nat.succ_mul,Gk (by rw [hf];omega),show n*size+size-size=n*size by omega,gr hf l n,List.nil_append]
section
variable {H : Type} {enc : TypeId × Value → H} {P : Program} {w : World} {base : Nat} {spare : Nat → Bool} {held : Bool}
end
end Go.Proofs.YtdobimafhbfkhaaGreat
namespace Go.Proofs.YtdobimafhbfkhaaGreat
open Go.ChangeShapes Go.WideShapes Go.ChangeAt Go.RowKit
inductive Tr where
 | nil
 | rd (i k:Nat) (t:Tr)
 | ef (i:Nat) (t m:Tr)
section
variable {P : Program} {ops : Array Oper} {Q : Exit → Act → World → Prop}
mutual
def ff (P:Program)(ops:Array Oper)(Q:Exit→Act→World→Prop):Tr→List Pend→Act→World→Prop
 | .nil,_,a,w=>Q .normal a w
 | .rd i k t,pend,a,w=>∃o,ops[i]?=some o ∧
  if Region.wanted o (yielded ops a.tmps)then o.still P a w (fun b=>ff P ops Q t (⟨o,a,b,k⟩::pend) b w)else ff P ops Q t (⟨o,a,a,k⟩::pend) (a.put o.dst undef) w
 | .ef i t m,pend,a,w=>(∃o,ops[i]?=some o∧wpList P ops (kU Q fun b w'=>ec P ops i pend w'∧ff P ops Q t (bq i pend) b w') [o] a w)∧mV P ops Q m pend a w
def mV (P:Program)(ops:Array Oper)(Q:Exit→Act→World→Prop):Tr→List Pend→Act→World→Prop
 | .nil,_,_,_=>True
 | .rd _ _ _,_,_,_=>True
 | .ef i t m,pend,a,w=>(∃o,ops[i]?=some o∧wpList P ops (kU Q fun b w'=>ec P ops i pend w'∧ff P ops Q t (bq i pend) b w') [o] a w)∧mV P ops Q m pend a w
end
theorem qS {pend:List Pend}{a:Act}{w:World}(h:Q .normal a w):ff P ops Q .nil pend a w:=by unfold ff;exact h
theorem gv {i k:Nat}{t:Tr}{pend:List Pend}{a:Act}{w:World}{o:Oper}(ho:ops[i]?=some o)(hg:o.guard=none)
  (h:∀K:Act→Prop,(∀b,ff P ops Q t (⟨o,a,b,k⟩::pend) b w→K b)→o.still P a w K):ff P ops Q (.rd i k t) pend a w:=by
 unfold ff;refine⟨o,ho,?_⟩;rw [if_pos (by simp [Region.wanted,hg])];exact h _ (fun _ h=>h)
theorem jH {i:Nat}{t:Tr}{pend:List Pend}{a:Act}{w:World}{o:Oper}(ho:ops[i]?=some o)
  (h:wpList P ops (kU Q fun b w'=>ec P ops i pend w'∧ff P ops Q t (bq i pend) b w') [o] a w):ff P ops Q (.ef i t .nil) pend a w:=by
 unfold ff;exact⟨⟨o,ho,h⟩,by unfold mV;trivial⟩
theorem wt {i j:Nat}{t u:Tr}{pend:List Pend}{a:Act}{w:World}{o o':Oper}(ho:ops[i]?=some o)(ho':ops[j]?=some o')
  (h:wpList P ops (kU Q fun b w'=>ec P ops i pend w'∧ff P ops Q t (bq i pend) b w') [o] a w)
  (h':wpList P ops (kU Q fun b w'=>ec P ops j pend w'∧ff P ops Q u (bq j pend) b w') [o'] a w):ff P ops Q (.ef i t (.ef j u .nil)) pend a w:=by
 unfold ff;refine⟨⟨o,ho,h⟩,?_⟩;unfold mV;exact⟨⟨o',ho',h'⟩,by unfold mV;trivial⟩
def fX : Tr→List Nat
 | .ef i _ m=>i::fX m
 | _=>[]
mutual
def l9 (ops:Array Oper)(effs:List Nat):Tr→Nat→Array Bool→Bool
 | .nil,0,listed=>(Region.ready .any ops listed).isEmpty
 | .nil,_+1,_=>false
 | .rd _ _ _,0,_=>false
 | .rd i k t,n+1,listed=>(Region.ready .any ops listed).contains i&&Region.free .any ops listed i && !effs.contains i&&(decide (ops.size≤k)||(effs.contains k&&gb ops ops.size k i))&&l9 ops effs t n (listed.setIfInBounds i true)
 | .ef _ _ _,0,_=>false
 | .ef i t m,n+1,listed=>decide (Region.ready .any ops listed=i::fX m)&&effs.contains i&&l9 ops effs t n (listed.setIfInBounds i true)&&sO ops effs m n listed
def sO (ops:Array Oper)(effs:List Nat):Tr→Nat→Array Bool→Bool
 | .nil,_,_=>true
 | .rd _ _ _,_,_=>false
 | .ef i t m,n,listed=>effs.contains i&&l9 ops effs t n (listed.setIfInBounds i true)&&sO ops effs m n listed
end
theorem vR {Qn:Exit→Act→World→Prop}(hout:∀a w,Q .outgrown a w→Qn .outgrown a w){t:Tr}{n j:Nat}{pend:List Pend}{listed:Array Bool}{a:Act}{w:World}{o:Oper}(ho:ops[j]?=some o)
  (hj:j∈Region.ready .any ops listed) (hsz:listed.size=ops.size) (hc:ClosedL ops listed)
  (IH:∀b w',SP P ops (bq j pend) (listed.setIfInBounds j true) w'→ff P ops Q t (bq j pend) b w'→dw P ops Qn (SP P ops (bq j pend)) n (listed.setIfInBounds j true) b w')
  (h:wpList P ops (kU Q fun b w'=>ec P ops j pend w'∧ff P ops Q t (bq j pend) b w') [o] a w) :
  wpOp P ops Qn j (fun a' w'=>SP P ops pend (listed.setIfInBounds j true) w'∧dw P ops Qn (SP P ops pend) n (listed.setIfInBounds j true) a' w') a w:=by
 have hc':=hc.set hj;have hsz':(listed.setIfInBounds j true).size=ops.size:=by simpa using hsz
 have hjlt:j<listed.size:=by rw [hsz];exact(Array.getElem?_eq_some_iff.1 ho).1
 have fin:∀b w',(ec P ops j pend w'∧ff P ops Q t (bq j pend) b w') →
   SP P ops pend (listed.setIfInBounds j true) w'∧dw P ops Qn (SP P ops pend) n (listed.setIfInBounds j true) b w':=by
  intro b w' ⟨h1,h2⟩;have hlist:(listed.setIfInBounds j true).getD j false=true:=by simp [hjlt]
  have hSP:SP P ops pend (listed.setIfInBounds j true) w':=fun x hx hl=>by
   by_cases hxj:x.k=j
   ·rw [hxj,hlist]at hl;cases hl
   ·exact fB h1 hx hxj
  refine⟨hSP,?_⟩;have hk2:SP P ops (bq j pend) (listed.setIfInBounds j true) w':=fun x hx hl=>hSP x (cD hx).1 hl;have ih:=IH b w' hk2 h2;refine fS (G:=fun l=>l.getD j false=true) (fun l i hl=>getD_set_true hl) (fun l w hl hh x hx hxl=>?_) _ _ _ _ hlist ih;by_cases hxj:x.k=j
  ·rw [hxj,hl]at hxl;cases hxl
  ·exact hh x (dQ hx hxj) hxl
 unfold wpOp;simp only [ho];unfold wpList at h;split
 ·rename_i hwt
  rw [if_pos hwt]at h;rcases h with h|⟨h1,b,w',h2⟩
  ·refine .inl ?_
   unfold Oper.wp at *;generalize (execOp a.eval o).run P w=r at *;cases r with
   | ok n w' =>
    cases n<;>simp only [Oper.upon]at h ⊢
    case value u=>exact fin _ _ h
    case skip=>exact fin _ _ h
    case defer d=>exact fin _ _ h
    case enter f args =>
     refine Calls.mono h fun e w'' he=>?_;cases e with
     | returned u=>exact fin _ _ he
     | panicked c=>exact(he:False).elim
     | outgrown=>obtain⟨b,w3,h3⟩:=he;exact⟨b,w3,hout _ _ h3⟩
    case row row args=>exact Rows.mono h fun u w'' he=>fin _ _ he
   | halt x w' =>
    cases x<;>simp only [Oper.upon]at h ⊢
    case panic u=>exact(h:False).elim
  ·exact .inr ⟨h1,b,w',hout _ _ h2⟩
 ·rename_i hwt
  rw [if_neg hwt]at h;exact fin _ _ h
mutual
theorem jM (hs:Region.noSelect ops=true){Qn:Exit→Act→World→Prop}(hnorm:∀a w,Q .normal a w→Qn .normal a w)(hout:∀a w,Q .outgrown a w→Qn .outgrown a w)
  (hQ:∀c (a:Act) (d:Option Tmp) (v:Value) (w:World),Qn (.panic c) (a.put d v) w→Qn (.panic c) a w) (effs:List Nat) :
  ∀(t:Tr) (n:Nat) (pend:List Pend) (listed:Array Bool) (a:Act) (w:World),l9 ops effs t n listed=true→listed.size=ops.size→ClosedL ops listed →
   (∀x∈pend,ops.size≤x.k∨effs.contains x.k=true)→SP P ops pend listed w→ff P ops Q t pend a w→dw P ops Qn (SP P ops pend) n listed a w
 | .nil,0,pend,listed,a,w,hB,_,_,_,_,h=>⟨by simpa [l9]using hB,hnorm _ _ (by unfold ff at h;exact h)⟩
 | .nil,_+1,_,_,_,_,hB,_,_,_,_,_=>by simp [l9]at hB
 | .rd _ _ _,0,_,_,_,_,hB,_,_,_,_,_=>by simp [l9]at hB
 | .ef _ _ _,0,_,_,_,_,hB,_,_,_,_,_=>by simp [l9]at hB
 | .rd i k t,n+1,pend,listed,a,w,hB,hsz,hc,hp,hS,h=>by
  simp only [l9,Bool.and_eq_true,Bool.or_eq_true,decide_eq_true_eq,Bool.not_eq_true']at hB;obtain⟨⟨⟨⟨hr,hf⟩,hne⟩,hk⟩,hB'⟩:=hB;unfold ff at h;obtain⟨o,ho,h⟩:=h;have hr':i∈Region.ready .any ops listed:=by simpa using hr
  have hilt:i<ops.size:=(Array.getElem?_eq_some_iff.1 ho).1;have hki:k≠i:=fun e=>by subst e;rcases hk with hk|hk<;>first|omega|(rw [hne]at hk;cases hk.1)
  have hpk:∀x∈pend,x.k≠i:=fun x hx e=>by
   rcases hp x hx with h1|h1
   ·omega
   ·rw [e,hne]at h1;cases h1
  have hw:k<ops.size→∃n,gb ops n k i=true:=fun hlt=>by
   rcases hk with hk|hk
   ·omega
   ·exact⟨_,hk.2⟩
  have hc':=hc.set hr';have step:∀(b0:Act) (v:Value),(Region.wanted o (yielded ops a.tmps)=true→b0=a.put o.dst v)→(Region.wanted o (yielded ops a.tmps)=false→v=undef)→YieldsAt P ops w o v a →
    (⟨o,a,b0,k⟩:Pend).ok P ops w→ff P ops Q t (⟨o,a,b0,k⟩::pend) (a.put o.dst v) w→dw P ops Qn (SP P ops pend) (n+1) listed a w:=by
   intro b0 v hb0 hv hy hok hrest;refine wD ho (Region.noSelect_spec hs) hb0 hv hki hpk hw (fun c a w=>hQ c a _ _ w) n listed a w hsz hc (Region.free_spec ho hf) hr' ⟨rfl,rfl,rfl⟩ ⟨v,hy,rfl⟩ hS ?_;refine jM hs hnorm hout hQ effs t n _ _ _ _ hB' (by simpa using hsz) hc' (fun x hx=>?_) (fun x hx hl=>?_) hrest
   ·rcases Gl.1 hx with rfl|hx
    ·rcases hk with hk|hk
     ·exact .inl hk
     ·exact .inr hk.1
    ·exact hp x hx
   ·rcases Gl.1 hx with rfl|hx
    ·exact hok
    ·refine hS x hx ?_
     rw [getD_set_ne false (Ne.symm (hpk x hx))]at hl;exact hl
  by_cases hwt:Region.wanted o (yielded ops a.tmps)=true
  ·rw [if_pos hwt]at h
   obtain⟨v,hy,hK⟩:=yieldsAt_of_stOp (ops:=ops) ho (gQ (ops:=ops) ho (by rw [if_pos hwt];exact h));refine step (a.put o.dst v) v (fun _=>rfl) (fun e=>by rw [hwt]at e;cases e) hy ?_ hK;have:=hy.stOp ho (K:=fun b=>b=a.put o.dst v) rfl;unfold stOp at this;simp only [ho]at this;unfold Pend.ok;rw [if_pos hwt]at this ⊢;exact this
  ·have hwf:Region.wanted o (yielded ops a.tmps)=false:=by simpa using hwt
   rw [if_neg hwt]at h;exact step a undef (fun e=>absurd e hwt) (fun _=>rfl) (.inr ⟨hwf,rfl⟩) (by unfold Pend.ok;rw [if_neg hwt];trivial) h
 | .ef i t m,n+1,pend,listed,a,w,hB,hsz,hc,hp,hS,h=>by
  simp only [l9,Bool.and_eq_true,decide_eq_true_eq]at hB;obtain⟨⟨⟨hr,he⟩,hB'⟩,hBm⟩:=hB;unfold ff at h;obtain⟨⟨o,ho,h⟩,hm⟩:=h;refine⟨fun h0=>(by rw [h0]at hr;cases hr),fun j hj=>?_⟩;by_cases hji:j=i
  ·subst hji
   have hc':=hc.set hj;exact vR hout ho hj hsz hc (fun b w' hk2 h2=>jM hs hnorm hout hQ effs t n _ _ _ _ hB' (by simpa using hsz) hc' (fun x hx=>hp x (cD hx).1) hk2 h2) h
  ·have hjm:j∈fX m:=by rw [hr]at hj;simpa [hji]using hj
   exact nP hs hnorm hout hQ effs m n pend listed a w hBm hsz hc hp (fun q hq=>by rw [hr];exact F4 _ hq) hm j hjm
theorem nP (hs:Region.noSelect ops=true){Qn:Exit→Act→World→Prop}(hnorm:∀a w,Q .normal a w→Qn .normal a w)(hout:∀a w,Q .outgrown a w→Qn .outgrown a w)
  (hQ:∀c (a:Act) (d:Option Tmp) (v:Value) (w:World),Qn (.panic c) (a.put d v) w→Qn (.panic c) a w) (effs:List Nat) :
  ∀(m:Tr) (n:Nat) (pend:List Pend) (listed:Array Bool) (a:Act) (w:World),sO ops effs m n listed=true→listed.size=ops.size→ClosedL ops listed →
   (∀x∈pend,ops.size≤x.k∨effs.contains x.k=true)→(∀q∈fX m,q∈Region.ready .any ops listed)→mV P ops Q m pend a w →
   ∀j∈fX m,wpOp P ops Qn j (fun a' w'=>SP P ops pend (listed.setIfInBounds j true) w'∧dw P ops Qn (SP P ops pend) n (listed.setIfInBounds j true) a' w') a w
 | .nil,_,_,_,_,_,_,_,_,_,_,_,j,hj=>by simp [fX]at hj
 | .rd _ _ _,_,_,_,_,_,_,_,_,_,_,_,j,hj=>by simp [fX]at hj
 | .ef i t m,n,pend,listed,a,w,hB,hsz,hc,hp,hr,h,j,hj=>by
  simp only [sO,Bool.and_eq_true]at hB;obtain⟨⟨he,hB'⟩,hBm⟩:=hB;unfold mV at h;obtain⟨⟨o,ho,h⟩,hm⟩:=h;by_cases hji:j=i
  ·subst hji
   have hjr:=hr j hj;have hc':=hc.set hjr;exact vR hout ho hjr hsz hc (fun b w' hk2 h2=>jM hs hnorm hout hQ effs t n _ _ _ _ hB' (by simpa using hsz) hc' (fun x hx=>hp x (cD hx).1) hk2 h2) h
  ·have hjm:j∈fX m:=by simpa [fX,hji]using hj
   exact nP hs hnorm hout hQ effs m n pend listed a w hBm hsz hc hp (fun q hq=>hr q (by simp [fX,hq])) hm j hjm
end
theorem oG {id:Nat}{a:Act}{w:World}{l:List Oper}(t:Tr)(effs:List Nat)(hm:P.follows .mixedOrders=true)
  (hB:(Region.noSelect l.toArray&&l9 l.toArray effs t l.length (Array.replicate l.toArray.size false))=true)
  (h:ff P l.toArray Q t [] a w.drew):(Code.region id l.toArray true).wp P Q a w:=by
 simp only [Bool.and_eq_true]at hB;obtain⟨hs,hB⟩:=hB;have key:dw P l.toArray (NoPanic Q) (SP P l.toArray []) l.length (Array.replicate l.toArray.size false) a w.drew:=by
  refine jM (Q:=Q) (Qn:=NoPanic Q) hs (fun _ _ h=>h) (fun _ _ h=>h) (fun c a d v w h=>(h:False).elim) effs t l.length [] _ a _ hB (by simp) (fun j o hj hl=>?_) (fun x hx=>by cases hx) (fun x hx=>by cases hx) h;rw [getD_replicate_false]at hl;cases hl
 have hz:l.length=l.toArray.size:=by simp
 rw [hz]at key;exact wp_region_noPanic (wp_region_any hm (jl _ _ _ _ key))
theorem al {a:Act}{w:World}{rest:List Oper}{o:Oper}(hw:Region.wanted o (yielded ops a.tmps)=true)(h:∀K:Act→World→Prop,(∀b w',wpList P ops Q rest b w'→K b w')→o.wp P a w K Q):wpList P ops Q (o::rest) a w:=by
 unfold wpList;rw [if_pos hw];exact .inl (h _ (fun _ _ h=>h))
theorem bU {a:Act}{w:World}{rest:List Oper}{o:Oper}(hw:Region.wanted o (yielded ops a.tmps)=false)(h:wpList P ops Q rest (a.put o.dst undef) w):wpList P ops Q (o::rest) a w:=by
 unfold wpList;rw [if_neg (by simp [hw])];exact h
end
abbrev PH := Nat→Option Obj
def PH.le (h k:PH):Prop:=∀b o,h b=some o→k b=some o
abbrev HP := PH→Prop
def aB (w:World):PH:=fun b=>w.heap[b]?
theorem PH.le.none (h:PH):PH.le (fun _=>Option.none) h:=fun _ _ e=>by cases e
theorem PH.le.refl (h:PH):PH.le h h:=fun _ _ h=>h
theorem PH.le.trans {h k m:PH}(a:PH.le h k)(b:PH.le k m):PH.le h m:=fun x o e=>b x o (a x o e)
def Holds : List HP→PH→Prop
 | [],_=>True
 | A::l,h=>∃h1 h2:PH,(∀b,h1 b=none∨h2 b=none)∧PH.le h1 h∧PH.le h2 h∧A h1∧Holds l h2
theorem Holds.mono : ∀ {l:List HP} {h k:PH},PH.le h k→Holds l h→Holds l k
 | [],_,_,_,_=>trivial
 | _::_,_,_,hk,⟨h1,h2,a,b,c,d,e⟩=>⟨h1,h2,a,b.trans hk,c.trans hk,d,e⟩
theorem Holds.swap {A C:HP}{l:List HP}{h:PH}(H:Holds (A::C::l) h):Holds (C::A::l) h:=by
 obtain⟨h1,h2,a,b,c,d,k1,k2,a',b',c',d',e'⟩:=H;have f:∀ {x:Nat} {o:Obj},k1 x=some o→h1 x=none:=fun {x o} e=>by
  rcases a x with g|g
  ·exact g
  ·have:=b' x o e;rw [g]at this;cases this
 refine⟨k1,fun x=>if (h1 x).isSome then h1 x else k2 x,fun x=>?_,b'.trans c,fun x o e=>?_,d',h1,k2,fun x=>?_,fun x o e=>by simp [e],fun x o e=>?_,d,e'⟩
 ·cases hk:k1 x with
  | none=>exact .inl rfl
  | some o =>
   refine .inr ?_;have h0:=f hk;simp only [h0,Option.isSome_none,Bool.false_eq_true,if_false];rcases a' x with g|g
   ·rw [g]at hk;cases hk
   ·exact g
 ·dsimp only at e
  split at e
  ·exact b x o e
  ·exact c x o (c' x o e)
 ·rcases a x with g|g
  ·exact .inl g
  ·refine .inr ?_
   cases hk:k2 x with
   | none=>rfl
   | some o=>have:=c' x o hk;rw [g]at this;cases this
 ·dsimp only
  have h0:h1 x=none:=by
   rcases a x with g|g
   ·exact g
   ·have:=c' x o e;rw [g]at this;cases this
  simp only [h0,Option.isSome_none,Bool.false_eq_true,if_false,e]
theorem Holds.cons {A:HP}{l l':List HP}(f:∀h,Holds l h→Holds l' h){h:PH}(H:Holds (A::l) h):Holds (A::l') h:=by
 obtain⟨h1,h2,a,b,c,d,e⟩:=H;exact⟨h1,h2,a,b,c,d,f _ e⟩
theorem Holds.perm {l l':List HP}(p:l.Perm l'):∀ {h:PH},Holds l h→Holds l' h:=by
 induction p with
 | nil=>exact fun H=>H
 | cons A _ ih=>exact fun H=>H.cons (fun _=>ih)
 | swap A C l=>exact fun H=>H.swap
 | trans _ _ ih1 ih2=>exact fun H=>ih2 (ih1 H)
theorem Holds.app : ∀ {l m:List HP} {h h1 h2:PH},(∀b,h1 b=none∨h2 b=none)→PH.le h1 h→PH.le h2 h→Holds l h1→Holds m h2→Holds (l++m) h
 | [],_,_,_,_,_,_,c,_,H=>H.mono c
 | A::l,m,h,h1,h2,a,b,c,⟨k1,k2,a',b',c',d',e'⟩,H=>by
  refine⟨k1,fun x=>if (h2 x).isSome then h2 x else k2 x,fun x=>?_,b'.trans b,fun x o e=>?_,d',Holds.app (h1:=k2) (h2:=h2) (fun x=>?_) (fun x o e=>?_) (fun x o e=>by simp [e]) e' H⟩
  ·cases hk:k1 x with
   | none=>exact .inl rfl
   | some o =>
    refine .inr ?_;have h0:h2 x=none:=by
     rcases a x with g|g
     ·have:=b' x o hk;rw [g]at this;cases this
     ·exact g
    simp only [h0,Option.isSome_none,Bool.false_eq_true,if_false];rcases a' x with g|g
    ·rw [g]at hk;cases hk
    ·exact g
  ·dsimp only at e
   split at e
   ·exact c x o e
   ·exact b x o (c' x o e)
  ·rcases a x with g|g
   ·refine .inl ?_
    cases hk:k2 x with
    | none=>rfl
    | some o=>have:=c' x o hk;rw [g]at this;cases this
   ·exact .inr g
  ·have h0:h2 x=none:=by
    rcases a x with g|g
    ·have:=c' x o e;rw [g]at this;cases this
    ·exact g
   simp only [h0,Option.isSome_none,Bool.false_eq_true,if_false,e]
theorem Holds.part : ∀ {l m:List HP} {h:PH},Holds (l++m) h→∃h1 h2:PH,(∀b,h1 b=none∨h2 b=none)∧PH.le h1 h∧PH.le h2 h∧Holds l h1∧Holds m h2
 | [],m,h,H=>⟨fun _=>none,h,fun _=>.inl rfl,PH.le.none _,PH.le.refl _,trivial,H⟩
 | A::l,m,h,⟨k1,k2,a',b',c',d',e'⟩=>by
  obtain⟨h1,h2,a,b,c,d,e⟩:=Holds.part (l:=l) e';refine⟨fun x=>if (k1 x).isSome then k1 x else h1 x,h2,fun x=>?_,fun x o e=>?_,c.trans c',⟨k1,h1,fun x=>?_,fun x o e=>by simp [e],fun x o e=>?_,d',d⟩,e⟩
  ·cases hk:h2 x with
   | none=>exact .inr rfl
   | some o =>
    refine .inl ?_;have hk2:=c x o hk;have h0:k1 x=none:=by
     rcases a' x with g|g
     ·exact g
     ·rw [g]at hk2;cases hk2
    dsimp only;simp only [h0,Option.isSome_none,Bool.false_eq_true,if_false];rcases a x with g|g
    ·exact g
    ·rw [g]at hk;cases hk
  ·dsimp only at e
   split at e
   ·exact b' x o e
   ·exact c' x o (b x o e)
  ·rcases a' x with g|g
   ·exact .inl g
   ·refine .inr ?_
    cases hk:h1 x with
    | none=>rfl
    | some o=>have:=b x o hk;rw [g]at this;cases this
  ·dsimp only
   have h0:k1 x=none:=by
    rcases a' x with g|g
    ·exact g
    ·have:=b x o e;rw [g]at this;cases this
   simp only [h0,Option.isSome_none,Bool.false_eq_true,if_false,e]
def aY (l:List HP):HP:=fun h=>Holds l h
theorem Holds.ungroup {L l:List HP}{h:PH}(H:Holds (aY L::l) h):Holds (L++l) h:=by
 obtain⟨h1,h2,a,b,c,d,e⟩:=H;exact Holds.app a b c d e
theorem Holds.togroup {L l:List HP}{h:PH}(H:Holds (L++l) h):Holds (aY L::l) h:=by
 obtain⟨h1,h2,a,b,c,d,e⟩:=H.part;exact⟨h1,h2,a,b,c,d,e⟩
theorem iJ {α:Type}(A':α):∀(l:List α) (i:Nat) (A:α),l[i]?=some A→(l.set i A').Perm (A'::l.eraseIdx i)
 | [],_,_,h=>by simp at h
 | x::l,0,_,_=>by simp
 | x::l,i+1,A,h=>by
  simp only [FJ,List.eraseIdx_cons_succ];exact((iJ A' l i A (by simpa using h)).cons x).trans (List.Perm.swap _ _ _)
theorem gh {α:Type}(l:List α)(i:Nat)(A:α)(h:l[i]?=some A):l.Perm (A::l.eraseIdx i):=by
 have:=iJ A l i A h;have e:l.set i A=l:=by
  obtain⟨hi,rfl⟩:=FO.1 h;exact List.set_getElem_self hi
 rwa [e]at this
structure Sat (B:World)(D:PH)(w:World)(l:List HP):Prop where
 os:w.os=B.os
 tape:w.tape=B.tape
 output:w.output=B.output
 size:B.heap.size≤w.heap.size
 holds:Holds ((fun h=>PH.le D h)::l) (aB w)
section
variable {B w w' : World} {D : PH} {l : List HP}
theorem Sat.start (w:World):Sat w (aB w) w []:=⟨rfl,rfl,rfl,Gn _,⟨aB w,fun _=>none,fun _=>.inr rfl,PH.le.refl _,PH.le.none _,PH.le.refl _,trivial⟩⟩
theorem Sat.pool (hs:Sat B D w l):PH.le D (aB w):=by
 obtain⟨h1,h2,a,b,c,d,e⟩:=hs.holds;exact PH.le.trans d b
theorem Sat.end_ (hs:Sat B D w l)(hD:PH.le (aB B) D):Kept (fun _=>False) B w :=
 ⟨hs.os,hs.tape,hs.output,hs.size,fun k hk _=>by
  have e:B.heap[k]?=some B.heap[k]:=Array.getElem?_eq_getElem hk;rw [e];exact hs.pool k _ (hD k _ e)⟩
theorem Sat.perm {l':List HP}(hs:Sat B D w l)(p:l.Perm l'):Sat B D w l':=⟨hs.os,hs.tape,hs.output,hs.size,hs.holds.perm (p.cons _)⟩
theorem Sat.front (hs:Sat B D w l)(i:Nat){A:HP}(h:l[i]?=some A):Sat B D w (A::l.eraseIdx i):=hs.perm (gh l i A h)
theorem Sat.modify (hs:Sat B D w l)(i:Nat){A A':HP}(h:l[i]?=some A)(f:∀l',Sat B D w (A::l')→Sat B D w' (A'::l')):Sat B D w' (l.set i A') :=
 (f _ (hs.front i h)).perm (iJ A' l i A h).symm
theorem Sat.hide (hs:Sat B D w l):∃W,W=w∧Sat B D W l:=⟨w,rfl,hs⟩
theorem Sat.swap {A C:HP}(hs:Sat B D w (A::C::l)):Sat B D w (C::A::l):=hs.perm (List.Perm.swap _ _ _)
theorem Sat.rot {A C E:HP}(hs:Sat B D w (A::C::E::l)):Sat B D w (C::E::A::l):=hs.perm ((List.Perm.swap _ _ _).trans ((List.Perm.swap _ _ _).cons _))
theorem Sat.drop {A:HP}(hs:Sat B D w (A::l)):Sat B D w l:=⟨hs.os,hs.tape,hs.output,hs.size,by
 obtain⟨h1,h2,a,b,c,d,e⟩:=hs.holds.swap;exact e.mono c⟩
theorem Sat.less {D':PH}(hs:Sat B D w l)(h:PH.le D' D):Sat B D' w l:=⟨hs.os,hs.tape,hs.output,hs.size,by
 obtain⟨h1,h2,a,b,c,d,e⟩:=hs.holds;exact⟨h1,h2,a,b,c,h.trans d,e⟩⟩
theorem Sat.weaken {A A':HP}(hs:Sat B D w (A::l))(f:∀h,A h→A' h):Sat B D w (A'::l):=⟨hs.os,hs.tape,hs.output,hs.size,by
 obtain⟨h1,h2,a,b,c,d,e⟩:=hs.holds.swap;exact Holds.swap ⟨h1,h2,a,b,c,f _ d,e⟩⟩
theorem Sat.ungroup {L:List HP}(hs:Sat B D w (aY L::l)):Sat B D w (L++l):=⟨hs.os,hs.tape,hs.output,hs.size,hs.holds.cons (fun _=>Holds.ungroup)⟩
theorem Sat.togroup {L:List HP}(hs:Sat B D w (L++l)):Sat B D w (aY L::l):=⟨hs.os,hs.tape,hs.output,hs.size,hs.holds.cons (fun _=>Holds.togroup)⟩
def exP {α:Type}(p:α→Prop)(L:α→List HP):HP:=fun h=>∃x,p x∧Holds (L x) h
theorem Sat.open_ex {α:Type}{p:α→Prop}{L:α→List HP}(hs:Sat B D w (exP p L::l)):∃x,p x∧Sat B D w (L x++l):=by
 obtain⟨h1,h2,a,b,c,⟨x,hx,d⟩,e⟩:=hs.holds.swap;exact⟨x,hx,Sat.ungroup ⟨hs.os,hs.tape,hs.output,hs.size,Holds.swap ⟨h1,h2,a,b,c,d,e⟩⟩⟩
theorem Sat.close_ex {α:Type}{p:α→Prop}{L:α→List HP}(x:α)(hx:p x)(hs:Sat B D w (L x++l)):Sat B D w (exP p L::l) :=
 hs.togroup.weaken (fun _ d=>⟨x,hx,d⟩)
theorem Sat.step {A A':HP}(hs:Sat B D w (A::l))(hk:∀h1,PH.le h1 (aB w)→A h1→Kept (fun k=>h1 k≠none) w w'∧∃h1',PH.le h1' (aB w')∧A' h1'∧∀b o,h1' b=some o→h1 b≠none∨w.heap.size≤b):Sat B D w' (A'::l):=by
 obtain⟨h1,h2,a,b,c,d,e⟩:=hs.holds.swap;obtain⟨k,h1',k1,k2,k3⟩:=hk h1 b d;refine⟨k.os.trans hs.os,k.tape.trans hs.tape,k.output.trans hs.output,Gq hs.size k.size,Holds.swap ⟨h1',h2,fun x=>?_,k1,fun x o hx=>?_,k2,e⟩⟩
 ·cases hx:h1' x with
  | none=>exact .inl rfl
  | some o =>
   refine .inr ?_;rcases k3 x o hx with g|g
   ·rcases a x with g'|g'
    ·exact absurd g' g
    ·exact g'
   ·cases h2x:h2 x with
    | none=>rfl
    | some o=>exact absurd (aw (c x o h2x)) (by omega)
 ·have h0:=c x o hx
  show w'.heap[x]?=some o;rw [k.block x (aw h0) (fun g=>?_)]
  ·exact h0
  ·rcases a x with g'|g'
   ·exact g g'
   ·rw [g']at hx;cases hx
theorem Sat.new {A':HP}(hs:Sat B D w l)(k:Kept (fun _=>False) w w')(h1':PH)(k1:PH.le h1' (aB w'))(k2:A' h1')(k3:∀b o,h1' b=some o→w.heap.size≤b):Sat B D w' (A'::l):=by
 refine⟨k.os.trans hs.os,k.tape.trans hs.tape,k.output.trans hs.output,Gq hs.size k.size,Holds.swap ⟨h1',aB w,fun x=>?_,k1,fun x o hx=>?_,k2,hs.holds⟩⟩
 ·cases hx:h1' x with
  | none=>exact .inl rfl
  | some o=>exact .inr (Array.getElem?_eq_none (by have:=k3 x o hx;omega))
 ·show w'.heap[x]?=some o
  rw [k.block x (aw hx) (fun g=>g)];exact hx
theorem Sat.kept (hs:Sat B D w l)(k:Kept (fun _=>False) w w'):Sat B D w' l :=
 (hs.new (A':=fun _=>True) k (fun _=>none) (fun _ _ e=>by cases e) trivial (fun _ _ e=>by cases e)).drop
theorem Sat.drew (hs:Sat B D w l):Sat B D w.drew l:=⟨hs.os,hs.tape,hs.output,hs.size,hs.holds⟩
theorem Sat.drewN (hs:Sat B D w l)(n:Nat):Sat B D (w.drewN n) l:=⟨hs.os,hs.tape,hs.output,hs.size,hs.holds⟩
theorem Sat.give {A : HP} (hs : Sat B D w (A :: l)) : ∃ D' h1, A h1 ∧ PH.le h1 D' ∧ PH.le D D' ∧ Sat B D' w l := by
  obtain ⟨h1, h2, a, b, c, d, k1, k2, a', b', c', d', e'⟩ := hs.holds
  refine ⟨fun x => if (D x).isSome then D x else k1 x, k1, d', fun x o e => ?_, fun x o e => by simp [e], hs.os, hs.tape, hs.output, hs.size, fun x => if (h1 x).isSome then h1 x else k1 x, k2, fun x => ?_, fun x o e => ?_, c'.trans c, fun x o e => ?_, e'⟩
  · dsimp only
    have h0 : D x = none := by
      cases hD : D x with
      | none => rfl
      | some o' => rcases a x with g | g
                   · have := d x o' hD; rw [g] at this; cases this
                   · have := b' x o e; rw [g] at this; cases this
    simp only [h0, Option.isSome_none, Bool.false_eq_true, if_false, e]
  · cases hk : k2 x with
    | none => exact .inr rfl
    | some o =>
      refine .inl ?_
      have h0 : h1 x = none := by
        rcases a x with g | g
        · exact g
        · have := c' x o hk; rw [g] at this; cases this
      dsimp only
      simp only [h0, Option.isSome_none, Bool.false_eq_true, if_false]
      rcases a' x with g | g
      · exact g
      · rw [g] at hk; cases hk
  · dsimp only at e
    split at e
    · exact b x o e
    · exact c x o (b' x o e)
  · dsimp only at e ⊢
    split at e
    · rw [d x o e]; rfl
    · have h0 : h1 x = none := by
        rcases a x with g | g
        · exact g
        · have := b' x o e; rw [g] at this; cases this
      simp only [h0, Option.isSome_none, Bool.false_eq_true, if_false, e]
def blk (b:Nat)(cs:Array Value)(t:TypeId):HP:=fun h=>h b=some (.cells cs t (0,0))
def one (b:Nat)(o:Obj):PH:=fun x=>if x=b then some o else none
theorem rf {b:Nat}{o:Obj}{h:PH}(e:h b=some o):PH.le (one b o) h:=fun x o' hx=>by
 unfold one at hx;split at hx
 ·rename_i h0;subst h0;cases hx;exact e
 ·cases hx
theorem ik (b:Nat)(o:Obj):one b o b=some o:=by simp [one]
theorem jZ {b x:Nat}{o o':Obj}(h:one b o x=some o'):x=b:=by unfold one at h;split at h;assumption;cases h
theorem Sat.get (hs:Sat B D w l)(i:Nat){A:HP}(h:l[i]?=some A):∃h1,PH.le h1 (aB w)∧A h1:=by
 obtain⟨h1,h2,a,b,c,d,e⟩:=(hs.front i h).holds.swap;exact⟨h1,b,d⟩
theorem Sat.blk (hs:Sat B D w l)(i:Nat){b:Nat}{cs:Array Value}{t:TypeId}(h:l[i]?=some (blk b cs t)):w.heap[b]?=some (.cells cs t (0,0)):=by
 obtain⟨h1,b,d⟩:=hs.get i h;exact b _ _ d
theorem Sat.alloc (hs:Sat B D w l)(cs:Array Value)(t:TypeId):Sat B D (w.alloc (.cells cs t)) (Proofs.YtdobimafhbfkhaaGreat.blk w.heap.size cs t::l) :=
 hs.new ((Kept.refl _ _).alloc _) (one w.heap.size (.cells cs t)) (rf (ak w _)) (ik _ _) (fun b o h=>by rw [jZ h];exact Gn _)
theorem Sat.set {b:Nat}{cs:Array Value}{t:TypeId}(hs:Sat B D w (Proofs.YtdobimafhbfkhaaGreat.blk b cs t::l))(j:Nat)(u:Value):Sat B D (w.setCell ⟨b,j,none⟩ u) (Proofs.YtdobimafhbfkhaaGreat.blk b (cs.setIfInBounds j u) t::l) :=
 hs.step fun h1 le hA=>⟨(Kept.set_at w b j u).mono (fun k _ e=>by rw [e,hA];simp),one b (.cells (cs.setIfInBounds j u) t),rf (ed (le _ _ hA) u),ik _ _,fun b' o h=>.inl (by rw [jZ h,hA];simp)⟩
theorem Sat.heap_blk {b:Nat}{cs:Array Value}{t:TypeId}(hs:Sat B D w (Proofs.YtdobimafhbfkhaaGreat.blk b cs t::l)):w.heap[b]?=some (.cells cs t (0,0)):=hs.blk 0 rfl
theorem Sat.ne (hs:Sat B D w l)(i j:Nat){b b':Nat}{cs cs':Array Value}{t t':TypeId}(hij:i≠j)(h:l[i]?=some (Proofs.YtdobimafhbfkhaaGreat.blk b cs t))(h':l[j]?=some (Proofs.YtdobimafhbfkhaaGreat.blk b' cs' t')):b≠b':=by
 intro e;subst e;have hj:(l.eraseIdx i)[if j<i then j else j-1]?=some (Proofs.YtdobimafhbfkhaaGreat.blk b cs' t'):=by
  by_cases hlt:j<i
  ·rw [if_pos hlt,List.getElem?_eraseIdx_of_lt hlt,h']
  ·rw [if_neg hlt,List.getElem?_eraseIdx_of_ge (by omega),show j-1+1=j by omega,h']
 obtain⟨h1,h2,a,b',c,d,e⟩:=(hs.front i h).holds.swap;have hs2:Sat B D w (l.eraseIdx i):=(hs.front i h).drop;obtain⟨k1,k2,a',b'',c',d',e'⟩:=Holds.perm (((gh _ _ _ hj).cons _).trans (List.Perm.swap _ _ _)) e;rcases a b with g|g
 ·exact absurd (d.symm.trans g) (by simp)
 ·have:=b'' _ _ d';rw [g]at this;cases this
def aD (e:TypeId)(size:Nat)(v:Value)(n:Nat)(xs:List Value):HP:=fun h =>
 xs.length=n*size∧(∀u∈xs,u.oneCell'=true) ∧
 ((v = .slice none 0 0∧n=0)∨∃g cap cur,v = .slice (some ⟨g,0,none⟩) n cap∧h g=some (.cells cur e (0,0))∧n≤cap∧cap≤maxLen∧cap*size≤cur.size∧cur.toList.take (n*size)=xs)
variable {e : TypeId} {size : Nat} {v v' : Value} {n n' : Nat} {xs xs' : List Value}
theorem sZ {h:PH}(le:PH.le h (aB w))(H:aD e size v n xs h):Own w e size v n xs:=by
 refine⟨H.1,H.2.1,?_⟩;rcases H.2.2 with h1|⟨g,cap,cur,h1,h2,h3⟩
 ·exact .inl h1
 ·exact .inr ⟨g,cap,cur,h1,le _ _ h2,h3⟩
theorem tU {h:PH}(H:Own w e size v n xs)(hh:∀g o,v.ownBlock=some g→w.heap[g]?=some o→h g=some o):aD e size v n xs h:=by
 refine⟨H.1,H.2.1,?_⟩;rcases H.2.2 with h1|⟨g,cap,cur,h1,h2,h3⟩
 ·exact .inl h1
 ·exact .inr ⟨g,cap,cur,h1,hh g _ (by rw [h1];rfl) h2,h3⟩
theorem Sat.own (hs:Sat B D w l)(i:Nat)(h:l[i]?=some (aD e size v n xs)):Own w e size v n xs:=by
 obtain⟨h1,b,d⟩:=hs.get i h;exact sZ b d
theorem Sat.own_shape (hs:Sat B D w (aD e size v n xs::l)):∃ao cap,v = .slice ao n cap:=by
 obtain⟨ao,cap,h,_⟩:=(hs.own 0 rfl).rd.2.2;exact⟨ao,cap,h⟩
theorem Sat.own_one (hs:Sat B D w (aD e size v n xs::l)):v.oneCell'=true:=by obtain⟨ao,cap,rfl⟩:=hs.own_shape;rfl
theorem Sat.own_nil (hs:Sat B D w l)(e:TypeId)(size:Nat):Sat B D w (aD e size (.slice none 0 0) 0 []::l) :=
 hs.new (Kept.refl _ _) (fun _=>none) (fun _ _ e=>by cases e) ⟨by simp,by simp,.inl ⟨rfl,rfl⟩⟩ (fun _ _ e=>by cases e)
def io (w:World)(v:Value):PH:=fun b=>if v.ownBlock=some b then w.heap[b]? else none
theorem lZ (w:World)(v:Value):PH.le (io w v) (aB w):=fun b o h=>by unfold io at h;split at h;exact h;cases h
theorem gD {w:World}{v:Value}{b:Nat}{o:Obj}(h:io w v b=some o):v.ownBlock=some b:=by unfold io at h;split at h;assumption;cases h
theorem ki (H:Own w e size v n xs):aD e size v n xs (io w v):=tU H (fun g _ h1 h2=>by unfold io;rw [if_pos h1];exact h2)
theorem Sat.own_new (hs:Sat B D w l)(k:Kept (fun _=>False) w w')(H:Own w' e size v n xs)(hn:∀g,v.ownBlock=some g→w.heap.size≤g):Sat B D w' (aD e size v n xs::l) :=
 hs.new k (io w' v) (lZ _ _) (ki H) (fun b _ h=>hn b (gD h))
theorem Sat.own_step (hs:Sat B D w (aD e size v n xs::l))(k:Kept (fun k=>v.ownBlock=some k) w w')(H:Own w' e size v' n' xs')(hn:v'.ownBlock=v.ownBlock∨∀g,v'.ownBlock=some g→w.heap.size≤g):Sat B D w' (aD e size v' n' xs'::l):=by
 refine hs.step fun h1 le hA=>⟨k.mono (fun x hx hv=>?_),io w' v',lZ _ _,ki H,fun b o hb=>?_⟩
 all_goals
  have f:∀x,v.ownBlock=some x→h1 x≠none:=fun x hv=>by
   rcases hA.2.2 with ⟨h2,_⟩|⟨g,cap,cur,h2,h3,_⟩
   ·rw [h2]at hv;cases hv
   ·rw [h2]at hv
    have:g=x:=by simpa [Value.ownBlock]using hv
    rw [←this,h3];simp
 ·exact f x hv
 ·have:=gD hb
  rcases hn with hn|hn
  ·exact .inl (f b (by rw [←hn];exact this))
  ·exact .inr (hn b this)
theorem Sat.own_set {g cap:Nat}(hs:Sat B D w (aD e size (.slice (some ⟨g,0,none⟩) n cap) n xs::l))(j:Nat)(u:Value)(hu:u.oneCell'=true):Sat B D (w.setCell ⟨g,j,none⟩ u) (aD e size (.slice (some ⟨g,0,none⟩) n cap) n (xs.set j u)::l):=by
 have ho:=hs.own 0 rfl;refine hs.own_step ((Kept.set_at w g j u).mono (fun k _ e=>by rw [e];rfl)) ?_ (.inl rfl);obtain⟨z,hz,hr⟩:=ho.row;rcases ho.2.2 with ⟨h1,_⟩|⟨g',cap',cur,hv,hh,h1,h2,h3,h4⟩
 ·cases h1
 ·cases hv
  exact(hr.set j u).own (by rw [FV];exact ho.1) (fun x hx=>(List.mem_or_eq_of_mem_set hx).elim (ho.2.1 x) (fun e=>e▸hu)) h1 h2 hz
theorem Sat.own_cut {g cap m c:Nat}(hs:Sat B D w (aD e size (.slice (some ⟨g,0,none⟩) n cap) n xs::l))(hm:m≤n)(hc:m≤c)(hc':c≤cap):Sat B D w (aD e size (.slice (some ⟨g,0,none⟩) m c) m (xs.take (m*size))::l) :=
 hs.own_step (Kept.refl _ _) ((hs.own 0 rfl).cut hm hc hc') (.inl rfl)
def RdP (D:PH)(size:Nat)(v:Value)(n:Nat)(xs:List Value):Prop :=
 xs.length=n*size∧n≤maxLen∧∃ao cap,v = .slice ao n cap∧n≤cap∧cap≤maxLen∧(ao=none→cap=0)∧(n=0∨∃g o,ao=some ⟨g,o,none⟩∧∃cs t fr,D g=some (.cells cs t fr)∧∀j u,xs[j]?=some u→cs[o+j]?=some u)
theorem RdP.mono {D':PH}(h:RdP D size v n xs)(le:PH.le D D'):RdP D' size v n xs:=by
 obtain⟨h1,h2,ao,cap,h3,h4,h5,h6,h7⟩:=h;refine⟨h1,h2,ao,cap,h3,h4,h5,h6,h7.imp (fun h=>h) ?_⟩;rintro⟨g,o,rfl,cs,t,fr,h8,h9⟩;exact⟨g,o,rfl,cs,t,fr,le _ _ h8,h9⟩
theorem RdP.rd (h:RdP D size v n xs)(hs:Sat B D w l):Rd w size v n xs:=by
 obtain⟨h1,h2,ao,cap,h3,h4,h5,h6,h7⟩:=h;refine⟨h1,h2,ao,cap,h3,h4,h5,h6,h7.imp (fun h=>h) ?_⟩;rintro⟨g,o,rfl,cs,t,fr,h8,h9⟩;refine⟨g,o,rfl,fun j u hu=>?_⟩;have:=hs.pool _ _ h8;rw [cell_of_row w g (o+j) cs t fr this];exact h9 j u hu
theorem RdP.nil (D:PH)(size:Nat):RdP D size (.slice none 0 0) 0 []:=⟨by simp,Gp _,none,0,rfl,Gn _,Gp _,fun _=>rfl,.inl rfl⟩
theorem RdP.of_rd (h:Rd w size v n xs)(hpos:0<size):RdP (aB w) size v n xs:=by
 obtain⟨h1,h2,ao,cap,h3,h4,h5,h6,h7⟩:=h;refine⟨h1,h2,ao,cap,h3,h4,h5,h6,?_⟩;rcases h7 with h7|⟨g,o,rfl,h7⟩
 ·exact .inl h7
 ·by_cases hn:n=0
  ·exact .inl hn
  ·refine .inr ⟨g,o,rfl,?_⟩
   have hx:0<xs.length:=by rw [h1];exact Nat.mul_pos (by omega) hpos
   have h0:=h7 0 xs[0] (FP hx);unfold World.cell? at h0;split at h0
   ·rename_i c t fr hb
    refine⟨c,t,fr,hb,fun j u hu=>?_⟩;have:=h7 j u hu;rw [cell_of_row w g (o+j) c t fr hb]at this;exact this
   ·cases h0
theorem RdP.of_own {h1:PH}(h:aD e size v n xs h1)(le:PH.le h1 D):RdP D size v n xs:=by
 have hl:=h.1;rcases h.2.2 with ⟨rfl,rfl⟩|⟨g,cap,cur,rfl,h2,h3,h4,h5,h6⟩
 ·exact⟨h.1,Gp _,none,0,rfl,Gn _,Gp _,fun _=>rfl,.inl rfl⟩
 ·refine⟨h.1,by omega,_,cap,rfl,h3,h4,(fun h=>by cases h),.inr ⟨g,0,rfl,cur,e,(0,0),le _ _ h2,fun j u hu=>?_⟩⟩
  rw [←h6,List.getElem?_take]at hu;split at hu
  ·rw [Nat.zero_add];simpa using hu
  ·cases hu
theorem Sat.own_give (hs:Sat B D w (aD e size v n xs::l)):∃D',PH.le D D'∧RdP D' size v n xs∧Sat B D' w l:=by
 obtain⟨D',h1,a,b,c,d⟩:=hs.give;exact⟨D',c,RdP.of_own a b,d⟩
theorem RdP.oneV (h:RdP D size v n xs):v.oneCell'=true:=by obtain⟨_,_,ao,cap,rfl,_⟩:=h;rfl
theorem RdP.shape (h:RdP D size v n xs):∃ao cap,v = .slice ao n cap:=by obtain⟨_,_,ao,cap,h,_⟩:=h;exact⟨ao,cap,h⟩
theorem RdP.len (h:RdP D size v n xs):n≤9223372036854775807:=by have:=h.2.1;unfold maxLen at this;omega
theorem RdP.take {ao:Option Addr}{cap:Nat}(h:RdP D size (.slice ao n cap) n xs){m:Nat}(hm:m≤n):RdP D size (.slice ao m cap) m (xs.take (m*size)):=by
 obtain⟨h1,h2,ao',cap',h3,h4,h5,h6,h7⟩:=h;cases h3;have hl:m*size≤n*size:=Nat.mul_le_mul_right _ hm;refine⟨by rw [F0,h1];omega,by omega,ao,cap,rfl,by omega,h5,h6,?_⟩;rcases h7 with h7|⟨g,o,rfl,cs,t,fr,h8,h9⟩
 ·exact .inl (by omega)
 ·refine .inr ⟨g,o,rfl,cs,t,fr,h8,fun j u hu=>?_⟩
  rw [List.getElem?_take]at hu;split at hu
  ·exact h9 j u hu
  ·cases hu
end
theorem az {P:Program}{B:World}{D:PH}{l:List HP}(w:World){ops:Array Oper}{rest:List Oper}{o:Oper}{a:Act}{Q:Exit→Act→World→Prop}(hgd:o.guard=none)(s x:Operand)(t:TypeId)
  (ho:o.op = .call { callee:=.builtin .append,args:=#[s,x],argTypes:=#[t,t] })
  (e:TypeId) (i:TypeInfo) (z:Value) (size bytes:Nat) (ht:P.underlying t=some (.slice e)) (hi:P.info? e=some i) (hz:i.zero=some z)
  (hsize:i.size=size) (hby:i.bytes=bytes) (hzs:z.cells.size=size)
  (v:Value) (n:Nat) (xs:List Value) (hv:a.eval s=v) (hs:Sat B D w (aD e size v n xs::l)) (xv:Value) (m:Nat) (news:List Value) (hx:a.eval x=xv) (hrd:Rd w size xv m news) (h1:∀u∈news,u.oneCell'=true)
  (h63:n+m≤maxLen) (hbytes:(n+m)*bytes≤140737488355328)
  (h:∀v' w',Sat B D w' (aD e size v' (n+m) (xs++news)::l)→v'.oneCell'=true→wpList P ops Q rest (a.put o.dst v') w'):wpList P ops Q (o::rest) a w:=by
 refine kC w hgd s x t ho e i z size bytes ht hi hz hsize hby hzs v n xs hv (hs.own 0 rfl) xv m news hx hrd h1 h63 hbytes (fun v' w' ho' hk hb _ _=>h v' w' (hs.own_step hk ho' (hb.imp (fun h=>h) (fun hb g hg=>?_))) ?_)
 ·rw [hb.1]at hg
  exact Nat.le_of_eq (Option.some.inj hg)
 ·rcases ho'.2.2 with ⟨h2,_⟩|⟨g,cap,cur,h2,_⟩<;>rw [h2]<;>rfl
theorem bC {w:World}{b:Nat}{cs:Array Value}{t:TypeId}{fr:Nat×Nat}{size n:Nat}(h:w.heap[b]?=some (.cells cs t fr))(hn:cs.toList.length=n*size)(hm:n≤maxLen):Rd w size (.slice (some ⟨b,0,none⟩) n n) n cs.toList :=
 ⟨hn,hm,_,n,rfl,Gn _,hm,(fun h=>by cases h),.inr ⟨b,0,rfl,fun j u hu=>by
  rw [cell_of_row w b (0+j) cs t fr h,Nat.zero_add];simpa using hu⟩⟩
end Go.Proofs.YtdobimafhbfkhaaGreat
