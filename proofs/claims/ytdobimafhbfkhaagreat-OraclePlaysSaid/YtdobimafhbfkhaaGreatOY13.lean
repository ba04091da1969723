/- Of no program: Canon's law inside the wide fence, where a round may be called, and what follows. -/
import Derived.Test.YtdobimafhbfkhaaGreatOY1
import Derived.RegionIn
import Derived.Test.YtdobimafhbfkhaaGreatOY3
import Derived.RangeFuncNested
import Derived.RangeFuncBound
import Derived.RangeFuncCalls
import Derived.RangeFuncLeaves
import Derived.WalkKit
import Derived.OwnWalkIn
import Derived.TacticsInMore
import Derived.LoopNIn
import Derived.LoopIn
namespace Go.Proofs.YtdobimafhbfkhaaGreat
open Go.ChangeShapes Go.WideShapes Go.ChangeAt Go.RowKit
section
variable {n : Nat} {P : Program} {ops : Array Oper} {Q : Exit → Act → World → Prop}
def dU (n:Nat)(P:Program)(ops:Array Oper)(Q:Exit→Act→World→Prop):List (Nat×Bool×Nat)→List Pend→Act→World→Prop
 | [],_,a,w=>Q .normal a w
 | (i,e,k)::rest,pend,a,w=>∃o,ops[i]?=some o ∧
  match e with
  | false=>if Region.wanted o (yielded ops a.tmps)then o.still P a w (fun b=>dU n P ops Q rest (⟨o,a,b,k⟩::pend) b w)else dU n P ops Q rest (⟨o,a,a,k⟩::pend) (a.put o.dst undef) w
  | true=>wpListIn Fence.wide n P ops (kU Q fun b w'=>ec P ops i pend w'∧dU n P ops Q rest (bq i pend) b w') [o] a w
theorem mD {pend:List Pend}{a:Act}{w:World}(h:Q .normal a w):dU n P ops Q [] pend a w:=h
theorem gI {i k:Nat}{rest:List (Nat×Bool×Nat)}{pend:List Pend}{a:Act}{w:World}{o:Oper}(ho:ops[i]?=some o)
  (h:wpListIn Fence.wide n P ops (kU Q fun b w'=>ec P ops i pend w'∧dU n P ops Q rest (bq i pend) b w') [o] a w):dU n P ops Q ((i,true,k)::rest) pend a w :=
 ⟨o,ho,h⟩
theorem ep {i k:Nat}{rest:List (Nat×Bool×Nat)}{pend:List Pend}{a:Act}{w:World}{o:Oper}(ho:ops[i]?=some o)(hg:o.guard=none)
  (h:∀K:Act→Prop,(∀b,dU n P ops Q rest (⟨o,a,b,k⟩::pend) b w→K b)→o.still P a w K):dU n P ops Q ((i,false,k)::rest) pend a w:=by
 refine⟨o,ho,?_⟩;dsimp only;rw [if_pos (by simp [Region.wanted,hg])];exact h _ (fun _ h=>h)
theorem gT {i k:Nat}{rest:List (Nat×Bool×Nat)}{pend:List Pend}{a:Act}{w:World}{o:Oper}(ho:ops[i]?=some o)(hg:Region.wanted o (yielded ops a.tmps)=true)
  (h:∀K:Act→Prop,(∀b,dU n P ops Q rest (⟨o,a,b,k⟩::pend) b w→K b)→o.still P a w K):dU n P ops Q ((i,false,k)::rest) pend a w:=by
 refine⟨o,ho,?_⟩;dsimp only;rw [if_pos hg];exact h _ (fun _ h=>h)
theorem iX {i k:Nat}{rest:List (Nat×Bool×Nat)}{pend:List Pend}{a:Act}{w:World}{o:Oper}(ho:ops[i]?=some o)(hg:Region.wanted o (yielded ops a.tmps)=false)
  (h:dU n P ops Q rest (⟨o,a,a,k⟩::pend) (a.put o.dst undef) w):dU n P ops Q ((i,false,k)::rest) pend a w:=by
 refine⟨o,ho,?_⟩;dsimp only;rw [if_neg (by simp [hg])];exact h
def eh (n:Nat)(P:Program)(ops:Array Oper)(Q:Exit→Act→World→Prop)(S:Array Bool→World→Prop):Nat→Array Bool→Act→World→Prop
 | 0,listed,a,w=>Region.ready .any ops listed = []∧Q .normal a w
 | fuel+1,listed,a,w =>
  (Region.ready .any ops listed = []→Q .normal a w) ∧
  ∀i∈Region.ready .any ops listed,wpOpIn Fence.wide n P ops Q i (fun a' w'=>S (listed.setIfInBounds i true) w'∧eh n P ops Q S fuel (listed.setIfInBounds i true) a' w') a w
theorem jh {S:Array Bool→World→Prop}:∀(fuel:Nat) (listed:Array Bool) (a:Act) (w:World),eh n P ops Q S fuel listed a w→wpAnyIn Fence.wide n P .any ops Q fuel listed a w
 | 0,_,_,_,h=>h
 | fuel+1,_,_,_,h=>⟨h.1,fun i hi=>wpOpIn_mono (fun a' w' h'=>jh fuel _ a' w' h'.2) (h.2 i hi)⟩
theorem gW {S S':Array Bool→World→Prop}{G:Array Bool→Prop}(hG:∀l i,G l→G (l.setIfInBounds i true))(hS:∀l w,G l→S l w→S' l w) :
  ∀(fuel:Nat) (listed:Array Bool) (a:Act) (w:World),G listed→eh n P ops Q S fuel listed a w→eh n P ops Q S' fuel listed a w
 | 0,_,_,_,_,h=>h
 | fuel+1,listed,_,_,hl,h=>⟨h.1,fun i hi=>wpOpIn_mono (fun a' w' h'=>⟨hS _ _ (hG listed i hl) h'.1,gW hG hS fuel _ a' w' (hG listed i hl) h'.2⟩) (h.2 i hi)⟩
theorem Oper.wpIn_of_still {o:Oper}{a:Act}{w:World}{K:Act→Prop}{K':Act→World→Prop}{Q':Exit→Act→World→Prop}(h:∀a,K a→K' a w)(hh:o.still P a w K):o.wpIn Fence.wide n P a w K' Q':=by
 unfold Oper.still at hh;unfold Oper.wpIn;refine⟨fun _ _=>trivial,?_⟩;rw [Fence.wide_round,Oper.semAt_none];generalize (execOp a.eval o).run P w=r at *;cases r with
 | ok x w' =>
  cases x<;>simp only [Oper.stillUpon]at hh<;>simp only [Oper.uponIn]
  case enter f args =>
   obtain⟨rfl,v,hc,hn⟩:=hh;exact⟨fun hd=>(by cases hd),callsIn_wide.2 (hc.mono fun e w'' ⟨he,hw⟩=>by subst he;subst hw;exact h _ hn)⟩
  all_goals (obtain⟨rfl,h2⟩:=hh;exact h _ h2)
 | halt x w'=>simp only [Oper.stillUpon]at hh
theorem nc {i:Nat}{a:Act}{w:World}{K:Act→Prop}{K':Act→World→Prop}{Q':Exit→Act→World→Prop}(h:∀a,K a→K' a w)(hh:stOp P ops w i K a):wpOpIn Fence.wide n P ops Q' i K' a w:=by
 unfold stOp at hh;unfold wpOpIn;split
 ·rename_i ho;simp only [ho]at hh;exact h _ hh
 ·rename_i o ho
  simp only [ho]at hh;split
  ·rename_i hw;simp only [hw,if_true]at hh;exact Oper.wpIn_of_still h hh
  ·rename_i hw;simp only [hw]at hh;exact⟨fun _ _=>trivial,h _ hh⟩
theorem qJ {j:Nat}{oi oj:Oper}{v:Value}{a0:Act}(hj:ops[j]?=some oj)(hap:oi.apart ops oj=true)
  (hsi:∀cs b,oi.op≠.select cs b) (hsj:∀cs b,oj.op≠.select cs b)
  (hQ:∀c a w,Q (.panic c) (a.put oi.dst v) w→Q (.panic c) a w) {K:Act→World→Prop} {a:Act} {w:World}
  (hy:AsAt ops oi a0 a) (h:wpOpIn Fence.wide n P ops Q j K (a.put oi.dst v) w) :
  wpOpIn Fence.wide n P ops Q j (fun a' w'=>AsAt ops oi a0 a'∧K (a'.put oi.dst v) w') a w:=by
 obtain⟨h1,h2,h3⟩:=Oper.apart_spec hap;have keep:∀(a:Act),AsAt ops oi a0 a→∀u,AsAt ops oi a0 (a.put oj.dst u):=fun a hy u=>hy.put hsi oj.dst u h3;have keepD:∀d,AsAt ops oi a0 { a with defers:=d::a.defers }:=fun d=>⟨hy.1,hy.2.1,hy.2.2⟩;unfold wpOpIn at *;simp only [hj]at *;rw [wanted_put oj a oi.dst v h1]at h;split
 ·rename_i hw
  simp only [hw,if_true]at h;unfold Oper.wpIn at *;refine⟨fun _ _=>trivial,?_⟩;have h:=h.2;rw [Fence.wide_round,Oper.semAt_none,execOp_put oj hsj a oi.dst v h1]at h;rw [Fence.wide_round,Oper.semAt_none];generalize (execOp a.eval oj).run P w=r at *;cases r with
  | ok x w' =>
   cases x<;>simp only [Oper.uponIn]at h ⊢
   case value u=>exact⟨keep a hy u,by rw [←Act.put_comm a v u h2];exact h⟩
   case skip=>exact⟨keep a hy _,by rw [←Act.put_comm a v undef h2];exact h⟩
   case defer d =>
    refine⟨keep _ (keepD d) _,?_⟩;rw [←Act.put_comm _ v undef h2,←Act.put_defers];exact h
   case enter f args =>
    refine⟨h.1,CallsIn.mono h.2 fun e w'' he=>?_⟩;cases e with
    | returned u=>exact⟨keep a hy u,by rw [←Act.put_comm a v u h2];exact he⟩
    | panicked c=>exact hQ _ _ _ he
    | outgrown=>exact he
   case row row args=>exact⟨h.1,RowsIn.mono h.2 fun u w'' he=>⟨keep a hy u,by rw [←Act.put_comm a v u h2];exact he⟩⟩
   case round l f tmps assign body =>
    refine⟨h.1,RoundIn.mono h.2 fun e w'' he=>?_⟩;cases e with
    | returned u=>exact⟨keep a hy u,by rw [←Act.put_comm a v u h2];exact he⟩
    | panicked c=>exact hQ _ _ _ he
    | outgrown=>exact he
  | halt x w' =>
   cases x<;>simp only [Oper.uponIn]at h ⊢
   case panic u=>exact hQ _ _ _ h
 ·rename_i hw
  simp only [hw]at h;exact⟨fun _ _=>trivial,keep a hy _,by rw [←Act.put_comm a v undef h2];exact h.2⟩
theorem take_EI {i k:Nat}{oi:Oper}{v:Value}{a0 b0:Act}{pend:List Pend}(hi:ops[i]?=some oi)(hsel:∀(j:Nat) (o:Oper) cs b,ops[j]?=some o→o.op≠.select cs b)
  (hb0:Region.wanted oi (yielded ops a0.tmps)=true→b0=a0.put oi.dst v) (hv:Region.wanted oi (yielded ops a0.tmps)=false→v=undef)
  (hk:k≠i) (hpk:∀x∈pend,x.k≠i) (hw:k<ops.size→∃n,gb ops n k i=true)
  (hQ:∀c a w,Q (.panic c) (a.put oi.dst v) w→Q (.panic c) a w) :
  ∀(fuel:Nat) (listed:Array Bool) (a:Act) (w:World),listed.size=ops.size→ClosedL ops listed →
   (∀j oj,ops[j]?=some oj→j≠i→listed.getD j true=false→(∀e∈oj.after,Region.binds .any e=true→e.on≠i)→oi.apart ops oj=true) →
   i∈Region.ready .any ops listed→AsAt ops oi a0 a→(∃v',YieldsAt P ops w oi v' a∧a0.put oi.dst v'=a0.put oi.dst v)→SP P ops pend listed w →
   eh n P ops Q (SP P ops (⟨oi,a0,b0,k⟩::pend)) fuel (listed.setIfInBounds i true) (a.put oi.dst v) w→eh n P ops Q (SP P ops pend) (fuel+1) listed a w:=by
 intro fuel;have fin:∀ {f:Nat} {listed:Array Bool} {a:Act} {w:World},AsAt ops oi a0 a→(∃v',YieldsAt P ops w oi v' a∧a0.put oi.dst v'=a0.put oi.dst v)→SP P ops pend listed w →
   eh n P ops Q (SP P ops (⟨oi,a0,b0,k⟩::pend)) f (listed.setIfInBounds i true) (a.put oi.dst v) w →
   wpOpIn Fence.wide n P ops Q i (fun a' w'=>SP P ops pend (listed.setIfInBounds i true) w'∧eh n P ops Q (SP P ops pend) f (listed.setIfInBounds i true) a' w') a w:=by
  intro f listed a w ha ⟨v',hy,he⟩ hS H;refine nc (K:=fun a'=>a'=a.put oi.dst v) (fun a' ha'=>?_) (hy.stOp hi (mG ha.2.2 he));subst ha';refine⟨fun x hx hl=>hS x hx ?_,gW (G:=fun _=>True) (fun _ _ _=>trivial) (fun l w _ h x hx=>h x (F4 _ hx)) f _ _ _ trivial H⟩;rw [getD_set_ne false (Ne.symm (hpk x hx))]at hl;exact hl
 induction fuel with
 | zero =>
  intro listed a w hsz hc _ hr ha hy hS H;refine⟨fun h=>(by rw [h]at hr;cases hr),fun j hj=>?_⟩;by_cases hji:j=i
  ·subst hji;exact fin ha hy hS H
  ·have:=ready_mono hj hji
   rw [H.1]at this;cases this
 | succ fuel ih =>
  intro listed a w hsz hc hfree hr ha hy hS H;refine⟨fun h=>(by rw [h]at hr;cases hr),fun j hj=>?_⟩;by_cases hji:j=i
  ·subst hji;exact fin ha hy hS H
  ·have h1:=H.2 j (ready_mono hj hji)
   obtain⟨hjun,oj,hoj,hall⟩:=mem_ready.1 hj;have hiun:=getD_both (mem_ready.1 hr).1;have hnot:∀e∈oj.after,Region.binds .any e=true→e.on≠i:=fun e he hb heq=>by
    have h1:=hall e he hb;rw [heq,hiun]at h1;cases h1
   have h2:=qJ hoj (hfree j oj hoj hji hjun hnot) (fun cs b=>hsel i oi cs b hi) (fun cs b=>hsel j oj cs b hoj) hQ ha h1;have hfree':∀k ok,ops[k]?=some ok→k≠i→(listed.setIfInBounds j true).getD k true=false →
     (∀e∈ok.after,Region.binds .any e=true→e.on≠i)→oi.apart ops ok=true:=fun k ok hk hki hun hno=>by
    refine hfree k ok hk hki ?_ hno;by_cases hjk:j=k
    ·subst hjk;exact hjun
    ·rw [getD_set_ne true hjk]at hun;exact hun
   refine wpOpIn_mono (fun a' w' h3=>?_) h2;obtain⟨ha',hS',h4⟩:=h3;have hc':=hc.set hj;have hkun:∀l:Array Bool,ClosedL ops l→l.size=ops.size→l.getD i false=false→l.getD k false=false:=by
    intro l hcl hls hil;by_cases hks:k<ops.size
    ·obtain⟨n,hn⟩:=hw hks
     cases hkl:l.getD k false with
     | false=>rfl
     | true=>rw [fl hcl n k i hn hkl]at hil;cases hil
    ·simp [Array.getElem?_eq_none (show l.size≤k by omega)]
   have hij:(listed.setIfInBounds j true).getD i false=false:=by rw [getD_set_ne false hji];exact hiun
   have hkj:(listed.setIfInBounds j true).getD k false=false:=hkun _ hc' (by simpa using hsz) hij;have hSP:SP P ops pend (listed.setIfInBounds j true) w':=fun x hx hl=>by
    refine hS' x (F4 _ hx) ?_;rw [Array.setIfInBounds_comm _ _ (Ne.symm hji),getD_set_ne false (Ne.symm (hpk x hx))];exact hl
   refine⟨hSP,ih (listed.setIfInBounds j true) a' w' (by simpa using hsz) hc' hfree' (ready_mono hr (Ne.symm hji)) ha' ?_ hSP ?_⟩
   ·have hok:=hS' ⟨oi,a0,b0,k⟩ (by simp) (by rw [Array.setIfInBounds_comm _ _ (Ne.symm hji),getD_set_ne false (Ne.symm hk)];exact hkj)
    unfold Pend.ok at hok;by_cases hwt:Region.wanted oi (yielded ops a0.tmps)=true
    ·simp only [hwt,if_true]at hok
     obtain⟨v',hv',he⟩:=yieldsAt_of_stOp hi (gQ (ops:=ops) (K:=fun b=>b=b0) hi (by rw [if_pos hwt];exact hok));exact⟨v',YieldsAt.asAt hv' ha',he.trans (hb0 hwt)⟩
    ·have hwf:Region.wanted oi (yielded ops a0.tmps)=false:=by simpa using hwt
     exact⟨v,.inr ⟨ha'.2.1.trans hwf,hv hwf⟩,rfl⟩
   ·rw [Array.setIfInBounds_comm _ _ hji]
    exact h4
theorem jv (hs:Region.noSelect ops=true){Qn:Exit→Act→World→Prop}(hnorm:∀a w,Q .normal a w→Qn .normal a w)(hout:∀a w,Q .outgrown a w→Qn .outgrown a w)
  (hQ:∀c (a:Act) (d:Option Tmp) (v:Value) (w:World),Qn (.panic c) (a.put d v) w→Qn (.panic c) a w) (effs:List Nat) :
  ∀(sched:List (Nat×Bool×Nat)) (pend:List Pend) (listed:Array Bool) (a:Act) (w:World),cX ops effs sched listed=true→listed.size=ops.size→ClosedL ops listed →
   (∀x∈pend,ops.size≤x.k∨effs.contains x.k=true)→SP P ops pend listed w→dU n P ops Q sched pend a w→eh n P ops Qn (SP P ops pend) sched.length listed a w
 | [],pend,listed,a,w,hB,_,_,_,_,h=>⟨by simpa [cX]using hB,hnorm _ _ h⟩
 | (i,false,k)::rest,pend,listed,a,w,hB,hsz,hc,hp,hS,h=>by
  simp only [cX,Bool.and_eq_true,Bool.or_eq_true,decide_eq_true_eq,Bool.not_eq_true']at hB;obtain⟨⟨⟨⟨hr,hf⟩,hne⟩,hk⟩,hB'⟩:=hB;obtain⟨o,ho,h⟩:=h;dsimp only at h;have hr':i∈Region.ready .any ops listed:=by simpa using hr
  have hilt:i<ops.size:=(Array.getElem?_eq_some_iff.1 ho).1;have hki:k≠i:=fun e=>by subst e;rcases hk with hk|hk<;>first|omega|(rw [hne]at hk;cases hk.1)
  have hpk:∀x∈pend,x.k≠i:=fun x hx e=>by
   rcases hp x hx with h1|h1
   ·omega
   ·rw [e,hne]at h1;cases h1
  have hw:k<ops.size→∃n,gb ops n k i=true:=fun hlt=>by
   rcases hk with hk|hk
   ·omega
   ·exact⟨_,hk.2⟩
  have hc':=hc.set hr';have step:∀(b0:Act) (v:Value),(Region.wanted o (yielded ops a.tmps)=true→b0=a.put o.dst v)→(Region.wanted o (yielded ops a.tmps)=false→v=undef)→YieldsAt P ops w o v a →
    (⟨o,a,b0,k⟩:Pend).ok P ops w→dU n P ops Q rest (⟨o,a,b0,k⟩::pend) (a.put o.dst v) w→eh n P ops Qn (SP P ops pend) ((i,false,k)::rest).length listed a w:=by
   intro b0 v hb0 hv hy hok hrest;refine take_EI ho (Region.noSelect_spec hs) hb0 hv hki hpk hw (fun c a w=>hQ c a _ _ w) rest.length listed a w hsz hc (Region.free_spec ho hf) hr' ⟨rfl,rfl,rfl⟩ ⟨v,hy,rfl⟩ hS ?_;refine jv hs hnorm hout hQ effs rest _ _ _ _ hB' (by simpa using hsz) hc' (fun x hx=>?_) (fun x hx hl=>?_) hrest
   ·rcases Gl.1 hx with rfl|hx
    ·rcases hk with hk|hk
     ·exact .inl hk
     ·exact .inr hk.1
    ·exact hp x hx
   ·rcases Gl.1 hx with rfl|hx
    ·exact hok
    ·refine hS x hx ?_
     rw [getD_set_ne false (Ne.symm (hpk x hx))]at hl;exact hl
  by_cases hwt:Region.wanted o (yielded ops a.tmps)=true
  ·rw [if_pos hwt]at h
   obtain⟨v,hy,hK⟩:=yieldsAt_of_stOp (ops:=ops) ho (gQ (ops:=ops) ho (by rw [if_pos hwt];exact h));refine step (a.put o.dst v) v (fun _=>rfl) (fun e=>by rw [hwt]at e;cases e) hy ?_ hK;have:=hy.stOp ho (K:=fun b=>b=a.put o.dst v) rfl;unfold stOp at this;simp only [ho]at this;unfold Pend.ok;rw [if_pos hwt]at this ⊢;exact this
  ·have hwf:Region.wanted o (yielded ops a.tmps)=false:=by simpa using hwt
   rw [if_neg hwt]at h;exact step a undef (fun e=>absurd e hwt) (fun _=>rfl) (.inr ⟨hwf,rfl⟩) (by unfold Pend.ok;rw [if_neg hwt];trivial) h
 | (i,true,k)::rest,pend,listed,a,w,hB,hsz,hc,hp,hS,h=>by
  simp only [cX,Bool.and_eq_true,decide_eq_true_eq]at hB;obtain⟨⟨hr,he⟩,hB'⟩:=hB;obtain⟨o,ho,h⟩:=h;dsimp only at h;refine⟨fun h0=>(by rw [h0]at hr;cases hr),fun j hj=>?_⟩;have hji:j=i:=by rw [hr]at hj;simpa using hj
  subst hji;have hc':=hc.set hj;have hsz':(listed.setIfInBounds j true).size=ops.size:=by simpa using hsz
  have hjlt:j<listed.size:=by rw [hsz];exact(Array.getElem?_eq_some_iff.1 ho).1
  have fin:∀b w',(ec P ops j pend w'∧dU n P ops Q rest (bq j pend) b w') →
    SP P ops pend (listed.setIfInBounds j true) w'∧eh n P ops Qn (SP P ops pend) rest.length (listed.setIfInBounds j true) b w':=by
   intro b w' ⟨h1,h2⟩;have hlist:(listed.setIfInBounds j true).getD j false=true:=by simp [hjlt]
   have hSP:SP P ops pend (listed.setIfInBounds j true) w':=fun x hx hl=>by
    by_cases hxj:x.k=j
    ·rw [hxj,hlist]at hl;cases hl
    ·exact fB h1 hx hxj
   refine⟨hSP,?_⟩;have hk2:SP P ops (bq j pend) (listed.setIfInBounds j true) w':=fun x hx hl=>hSP x (cD hx).1 hl;have ih:=jv hs hnorm hout hQ effs rest _ _ _ _ hB' hsz' hc' (fun x hx=>hp x (cD hx).1) hk2 h2;refine gW (G:=fun l=>l.getD j false=true) (fun l i hl=>getD_set_true hl) (fun l w hl hh x hx hxl=>?_) _ _ _ _ hlist ih;by_cases hxj:x.k=j
   ·rw [hxj,hl]at hxl;cases hxl
   ·exact hh x (dQ hx hxj) hxl
  unfold wpOpIn;simp only [ho];unfold wpListIn at h;split
  ·rename_i hwt
   rw [if_pos hwt]at h;unfold Oper.wpIn at *;refine⟨fun _ _=>trivial,?_⟩;have h:=h.2;generalize (o.semAt Fence.wide.round a.eval).run P w=r at *;cases r with
   | ok x w' =>
    cases x<;>simp only [Oper.uponIn]at h ⊢
    case value u=>exact fin _ _ h
    case skip=>exact fin _ _ h
    case defer d=>exact fin _ _ h
    case enter f args =>
     refine⟨h.1,CallsIn.mono h.2 fun e w'' he=>?_⟩;cases e with
     | returned u=>exact fin _ _ he
     | panicked c=>exact(he:False).elim
     | outgrown=>obtain⟨b,w3,h3⟩:=he;exact⟨b,w3,hout _ _ h3⟩
    case row row args=>exact⟨h.1,RowsIn.mono h.2 fun u w'' he=>fin _ _ he⟩
    case round l f tmps assign body =>
     refine⟨h.1,RoundIn.mono h.2 fun e w'' he=>?_⟩;cases e with
     | returned u=>exact fin _ _ he
     | panicked c=>exact(he:False).elim
     | outgrown=>obtain⟨b,w3,h3⟩:=he;exact⟨b,w3,hout _ _ h3⟩
   | halt x w' =>
    cases x<;>simp only [Oper.uponIn]at h ⊢
    case panic u=>exact(h:False).elim
  ·rename_i hwt
   rw [if_neg hwt]at h;exact⟨fun _ _=>trivial,fin _ _ h.2⟩
theorem fU {id:Nat}{a:Act}{w:World}{l:List Oper}(sched:List (Nat×Bool×Nat))(hm:P.follows .mixedOrders=true)
  (hB:(Region.noSelect l.toArray&&(decide (sched.length=l.length)&&cX l.toArray ((sched.filter (·.2.1)).map (·.1)) sched (Array.replicate l.toArray.size false)))=true)
  (h:dU n P l.toArray Q sched [] a w.drew):(Code.region id l.toArray true).wpIn Fence.wide n P Q a w:=by
 simp only [Bool.and_eq_true,decide_eq_true_eq]at hB;obtain⟨hs,hlen,hB⟩:=hB;have key:eh n P l.toArray (NoPanic Q) (SP P l.toArray []) sched.length (Array.replicate l.toArray.size false) a w.drew:=by
  refine jv (Q:=Q) (Qn:=NoPanic Q) hs (fun _ _ h=>h) (fun _ _ h=>h) (fun c a d v w h=>(h:False).elim) _ sched [] _ a _ hB (by simp) (fun j o hj hl=>?_) (fun x hx=>by cases hx) (fun x hx=>by cases hx) h;rw [getD_replicate_false]at hl;cases hl
 have hz:sched.length=l.toArray.size:=by simpa using hlen
 rw [hz]at key;exact Code.wpIn_mono NoPanic.imp (wpIn_region_any hm (jh _ _ _ _ key))
theorem il {a:Act}{w:World}{rest:List Oper}{o:Oper}(hw:Region.wanted o (yielded ops a.tmps)=true)(h:∀K:Act→World→Prop,(∀b w',wpListIn Fence.wide n P ops Q rest b w'→K b w')→o.wpIn Fence.wide n P a w K Q):wpListIn Fence.wide n P ops Q (o::rest) a w:=by
 unfold wpListIn;rw [if_pos hw];exact h _ (fun _ _ h=>h)
theorem oW {a:Act}{w:World}{rest:List Oper}{o:Oper}(hw:Region.wanted o (yielded ops a.tmps)=false)(h:wpListIn Fence.wide n P ops Q rest (a.put o.dst undef) w):wpListIn Fence.wide n P ops Q (o::rest) a w:=by
 unfold wpListIn;rw [if_neg (by simp [hw])];exact⟨fun _ _=>trivial,h⟩
end
end Go.Proofs.YtdobimafhbfkhaaGreat
namespace Go.Proofs.YtdobimafhbfkhaaGreat
open Go.ChangeShapes Go.WideShapes Go.ChangeAt Go.RowKit
set_option linter.unusedSimpArgs false
structure Owner (n₀:Nat)(Ow:World→Nat→Prop):Prop where
 stay:∀W W',n₀≤W.heap.size→Kept (fun _=>False) W W'→∀k,Ow W' k→Ow W k
 put:∀W l (o:Obj),n₀≤l→∀k,Ow (W.putObj l o) k→Ow W k
structure KpO (Ow:World→Nat→Prop)(W W':World):Prop where
 size:W.heap.size≤W'.heap.size
 same:∀k cs t fr,W.heap[k]?=some (.cells cs t fr)→¬Ow W k→W'.heap[k]?=some (.cells cs t fr)
 back:∀k,Ow W' k→Ow W k∨W.heap.size≤k
 fit:(∀k,Ow W k→k<W.heap.size)→∀k,Ow W' k→k<W'.heap.size
structure ItOk (n₀:Nat)(Ow:World→Nat→Prop)(D:PH)(W:World):Prop where
 le:PH.le D (aB W)
 mine:∀k o,D k=some o→(∃cs t fr,o = .cells cs t fr)∧¬Ow W k
 fit:∀k,Ow W k→k<W.heap.size
 ge:n₀≤W.heap.size
section
variable {n₀ : Nat} {Ow : World → Nat → Prop} {D : PH} {W W' X : World}
theorem ku {k:Nat}{o:Obj}(h:aB W k=some o):k<W.heap.size:=aw h
theorem KpO.trans (a:KpO Ow W W')(b:KpO Ow W' X):KpO Ow W X where
 size:=Gq a.size b.size
 same:=fun k cs t fr h hn=>b.same k cs t fr (a.same k cs t fr h hn) (fun ho=>by
  rcases a.back k ho with h1|h1
  ·exact hn h1
  ·have:=aw h;omega)
 back:=fun k ho=>by
  rcases b.back k ho with h1|h1
  ·exact a.back k h1
  ·exact .inr (Gq a.size h1)
 fit:=fun h=>b.fit (a.fit h)
theorem KpO.put (hO:Owner n₀ Ow){l:Nat}{o o':Obj}(hl:n₀≤l)(h:W.heap[l]?=some o)(hc:o.isCells=false):KpO Ow W (W.putObj l o') where
 size:=by simp
 same:=fun k cs t fr hk _=>by
  rw [World.putObj_heap_other (fun e=>by subst e;rw [h]at hk;cases hk;cases hc)];exact hk
 back:=fun k ho=>.inl (hO.put W l o' hl k ho)
 fit:=fun hf k ho=>by have:=hf k (hO.put W l o' hl k ho);simpa using this
theorem ItOk.kp (h:ItOk n₀ Ow D W)(k:KpO Ow W W'):ItOk n₀ Ow D W' where
 le:=fun b o hb=>by
  obtain⟨⟨cs,t,fr,rfl⟩,hn⟩:=h.mine b o hb;exact k.same b cs t fr (h.le b _ hb) hn
 mine:=fun b o hb=>⟨(h.mine b o hb).1,fun ho=>by
  rcases k.back b ho with h1|h1
  ·exact(h.mine b o hb).2 h1
  ·have:=ku (h.le b o hb);omega⟩
 fit:=k.fit h.fit
 ge:=Gq h.ge k.size
theorem ItOk.kept (hO:Owner n₀ Ow)(h:ItOk n₀ Ow D W)(k:Kept (fun _=>False) W W'):ItOk n₀ Ow D W' where
 le:=fun b o hb=>(k.block b (ku (h.le b o hb)) (fun h=>h)).trans (h.le b o hb)
 mine:=fun b o hb=>⟨(h.mine b o hb).1,fun ho=>(h.mine b o hb).2 (hO.stay W W' h.ge k b ho)⟩
 fit:=fun b ho=>Nat.lt_of_lt_of_le (h.fit b (hO.stay W W' h.ge k b ho)) k.size
 ge:=Gq h.ge k.size
def PH.with (D:PH)(b:Nat)(o:Obj):PH:=fun x=>if x=b then some o else D x
theorem PH.with_self (D:PH)(b:Nat)(o:Obj):D.with b o b=some o:=by simp [PH.with]
theorem ItOk.new (hO:Owner n₀ Ow)(h:ItOk n₀ Ow D W)(k:Kept (fun _=>False) W W'){b:Nat}{cs:Array Value}{t:TypeId}{fr:Nat×Nat}(hb:W'.heap[b]?=some (.cells cs t fr))(hge:W.heap.size≤b):ItOk n₀ Ow (D.with b (.cells cs t fr)) W' where
 le:=fun x o hx=>by
  unfold PH.with at hx
  split at hx
  ·rename_i e;subst e;cases hx;exact hb
  ·exact(h.kept hO k).le x o hx
 mine:=fun x o hx=>by
  unfold PH.with at hx
  split at hx
  ·rename_i e
   subst e;cases hx;exact⟨⟨_,_,_,rfl⟩,fun ho=>by have:=h.fit x (hO.stay W W' h.ge k x ho);omega⟩
  ·exact(h.kept hO k).mine x o hx
 fit:=(h.kept hO k).fit
 ge:=(h.kept hO k).ge
theorem ItOk.with_le (h:ItOk n₀ Ow D W){b:Nat}(o:Obj)(hb:W.heap.size≤b):PH.le D (D.with b o):=fun x p hx=>by
 unfold PH.with
 rw [if_neg (fun e=>by subst e;have:=ku (h.le x p hx);omega)];exact hx
theorem ItOk.less {D':PH}(h:ItOk n₀ Ow D' W)(le:PH.le D D'):ItOk n₀ Ow D W where
 le:=le.trans h.le
 mine:=fun b o hb=>h.mine b o (le b o hb)
 fit:=h.fit
 ge:=h.ge
theorem Kept.grown (k:Kept (fun _=>False) W W'):W.grownBy W' none:=⟨k.os,k.tape,k.output,k.size,fun b hb _=>k.block b hb (fun h=>h)⟩
end
end Go.Proofs.YtdobimafhbfkhaaGreat
