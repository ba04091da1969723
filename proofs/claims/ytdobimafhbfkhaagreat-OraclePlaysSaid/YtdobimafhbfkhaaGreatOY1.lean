/- Nothing is proved here of the program: the imports that all texts of this claim share, .., and what follows. -/
import Derived.Test.YtdobimafhbfkhaaGreatProg
import Derived.WalkKit
import Derived.ProofKit
import Derived.WalkLawsBesides
import Derived.WalkSpells
import Derived.Lib.Hide
import Derived.Deep.LoopGhost
import Derived.Deep.DeepMust
import Derived.Deep.QuietTactic
import Derived.BigQuiet
import Derived.RegionTactic
import Derived.Test.YtdobimafhbfkhaaGreatRows
import Derived.OpenShut
import Derived.JoinedCond
import Derived.Deep.DeepHandedRow
import Derived.Deep.CondSized
import Derived.StillTactics
import Derived.StillTail
import Derived.Deep.RegionHeld3
import Derived.Deep.AppendLies
namespace Go.Proofs.YtdobimafhbfkhaaGreat
abbrev rq (i k : Nat) : Nat × Bool × Nat := (i, false, k)
theorem FH {p:Prop}(h:p):RowKit.Hid p:=Lib.hid h
abbrev FI := @List.setIfInBounds_toArray
abbrev FJ := @List.set_cons_succ
abbrev FK := @List.set_cons_zero
abbrev FL := @List.getElem_toArray
abbrev FM := @List.getElem_cons_succ
abbrev FN := @List.getElem_cons_zero
abbrev FO := @List.getElem?_eq_some_iff
abbrev FP := @List.getElem?_eq_getElem
abbrev FQ := @List.mem_of_getElem?
abbrev FR := @List.length_append
abbrev FS := @List.take_of_length_le
abbrev FT := @List.flatMap_append
abbrev FU := @List.append_assoc
abbrev FV := @List.length_set
abbrev FW := @List.getD_eq_getElem?_getD
abbrev FX := @List.getElem?_set_self
abbrev FY := @decide_eq_false
abbrev FZ := @List.length_map
abbrev F0 := @List.length_take
abbrev F1 := @List.flatMap_cons
abbrev F2 := @List.mem_append
abbrev F3 := @List.take_add_one
abbrev F4 := @List.mem_cons_of_mem
abbrev F5 := @decide_eq_true
abbrev F6 := @Int.toNat_natCast
abbrev F7 := @List.length_eq_zero_iff
abbrev F8 := @List.getElem?_set_ne
abbrev F9 := @List.take_append_of_le_length
abbrev Ga := @List.length_drop
abbrev Gb := @List.getElem?_append_right
abbrev Gc := @List.mem_cons_self
abbrev Gd := @List.mem_of_mem_drop
abbrev Ge := @List.perm_middle
abbrev Gf := @List.mem_of_mem_take
abbrev Gg := @List.getElem?_map
abbrev Gh := @List.length_singleton
abbrev Gi := @List.mem_flatMap
abbrev Gj := @List.take_append_drop
abbrev Gk := @List.drop_of_length_le
abbrev Gl := @List.mem_cons
abbrev Gm := @List.getElem?_append_left
abbrev Gn := @Nat.le_refl
abbrev Gp := @Nat.zero_le
abbrev Gq := @Nat.le_trans
abbrev Gr := @IntWalk.i64_in
open Go.ChangeShapes Go.WideShapes Go.ChangeAt Go.RowKit
attribute [go_sem] Instr.field asAgg
@[go_sem low] theorem nm {P:Program}(w:World)(a:Addr)(v:Value)(m:Mode)(hv:v.oneCell'=true):(store a v m).run P w=stored P w a v m:=run_store P w a v m hv
theorem jc {H:Type}{enc:TypeId×Value→H}{P:Program}(hl:laidOutB P=true){W W':World}(hb:Below W.heap.size W W') :
  ∀(ts:List TypeId) (vs:List Value) (ds:List (DataW H)) (ps:List MemPlace),(∀t∈ts,P.readableRec t=true∧t<P.types.size)→(∀x∈ps,x.block<W.heap.size) →
   DataW.TrodAll enc P W 0 (fun _=>true) true ts vs ds ps→DataW.TrodAll enc P W' 0 (fun b=>decide (b<W.heap.size)) true ts vs ds ps
 | [],[],[],ps,_,_,h=>h
 | t::ts,v::vs,d::ds,ps,ht,hp,h=>by
  obtain⟨p,q,h1,h2,rfl⟩:=h;exact⟨p,q,Below.trod hl (ht t (by simp)).1 (ht t (by simp)).2 h1 hb (fun x hx=>hp x (by simp [hx])),
   jc hl hb ts vs ds q (fun t h=>ht t (by simp [h])) (fun x hx=>hp x (by simp [hx])) h2,rfl⟩
 | [],[],_::_,_,_,_,h=>h.elim
 | [],_::_,[],_,_,_,h=>h.elim
 | [],_::_,_::_,_,_,_,h=>h.elim
 | _::_,[],[],_,_,_,h=>h.elim
 | _::_,[],_::_,_,_,_,h=>h.elim
 | _::_,_::_,[],_,_,_,h=>h.elim
theorem vK {H:Type}{enc:TypeId×Value→H}{P:Program}{f:Func}{s:ChangeSpec}{W W':World}{args:Array Value}{ds gs:List (DataW H)}{before:List MemPlace}{tb:TypeId}
  (hl:laidOutB P=true) (hts:f.params.toList.all (fun t=>P.readableRec t&&decide (t<P.types.size))=true) (hrt:f.resultTypes = #[tb]) (htb:P.underlying tb=some .bool) (hv:s.vars = [])
  (hW:DataW.Whole enc P f.params.toList s.vars false W args.toList ds gs before)
  (hr:(s.fn H (ds++gs)).results = [.lit (.bool true)]) (ha:(s.fn H (ds++gs)).args=ds) (hvs:(s.fn H (ds++gs)).vars = [])
  (hb:Below W.heap.size W W'):s.post enc P f false true false false W args (.bool true) W':=by
 have hlt:=hW.lt;have hW':=hW;obtain⟨p,q,hA,hV,rfl,hfz,hnd⟩:=hW;refine⟨ds,gs,p++q,[],p,[],hW',?_,?_,?_,hb.frame _,fun h=>by cases h⟩
 ·rw [hr,hrt]
  exact⟨[],[],⟨1,by simp [DataW.trod,Value.cells,htb]⟩,rfl,rfl⟩
 ·rw [ha]
  refine jc hl hb _ _ _ _ (fun t ht=>?_) (fun x hx=>hlt x (by simp [hx])) hA;have:=List.all_eq_true.1 hts t ht
  simpa using this
 ·rw [hv,hvs];rfl
section
variable {P : Program} {ops : Array Oper} {Q : Exit → Act → World → Prop}
structure Pend where
 o:Oper
 a:Act
 b:Act
 k:Nat
def Pend.ok (P:Program)(ops:Array Oper)(x:Pend)(w:World):Prop :=
 if Region.wanted x.o (yielded ops x.a.tmps)then x.o.still P x.a w (fun b=>b=x.b)else True
def ec (P:Program)(ops:Array Oper)(i:Nat):List Pend→World→Prop
 | [],_=>True
 | x::l,w=>if x.k=i then ec P ops i l w else x.ok P ops w∧ec P ops i l w
def bq (i:Nat):List Pend→List Pend
 | []=>[]
 | x::l=>if x.k=i then bq i l else x::bq i l
def kU (Q:Exit→Act→World→Prop)(R:Act→World→Prop):Exit→Act→World→Prop
 | .normal,a,w=>R a w
 | .outgrown,a,w=>Q .outgrown a w
 | _,_,_=>False
def eV (P:Program)(ops:Array Oper)(Q:Exit→Act→World→Prop):List (Nat×Bool×Nat)→List Pend→Act→World→Prop
 | [],_,a,w=>Q .normal a w
 | (i,e,k)::rest,pend,a,w=>∃o,ops[i]?=some o ∧
  match e with
  | false=>if Region.wanted o (yielded ops a.tmps)then o.still P a w (fun b=>eV P ops Q rest (⟨o,a,b,k⟩::pend) b w)else eV P ops Q rest (⟨o,a,a,k⟩::pend) (a.put o.dst undef) w
  | true=>wpList P ops (kU Q fun b w'=>ec P ops i pend w'∧eV P ops Q rest (bq i pend) b w') [o] a w
attribute [go_sem] ec bq Pend.ok
theorem ag {pend:List Pend}{a:Act}{w:World}(h:Q .normal a w):eV P ops Q [] pend a w:=h
theorem af {i k:Nat}{rest:List (Nat×Bool×Nat)}{pend:List Pend}{a:Act}{w:World}{o:Oper}(ho:ops[i]?=some o)
  (h:wpList P ops (kU Q fun b w'=>ec P ops i pend w'∧eV P ops Q rest (bq i pend) b w') [o] a w):eV P ops Q ((i,true,k)::rest) pend a w :=
 ⟨o,ho,h⟩
theorem ae {i k:Nat}{rest:List (Nat×Bool×Nat)}{pend:List Pend}{a:Act}{w:World}{o:Oper}(ho:ops[i]?=some o)(hg:o.guard=none)
  (h:∀K:Act→Prop,(∀b,eV P ops Q rest (⟨o,a,b,k⟩::pend) b w→K b)→o.still P a w K):eV P ops Q ((i,false,k)::rest) pend a w:=by
 refine⟨o,ho,?_⟩;dsimp only;rw [if_pos (by simp [Region.wanted,hg])];exact h _ (fun _ h=>h)
theorem ar {i k:Nat}{rest:List (Nat×Bool×Nat)}{pend:List Pend}{a:Act}{w:World}{o:Oper}(ho:ops[i]?=some o)(hg:Region.wanted o (yielded ops a.tmps)=true)
  (h:∀K:Act→Prop,(∀b,eV P ops Q rest (⟨o,a,b,k⟩::pend) b w→K b)→o.still P a w K):eV P ops Q ((i,false,k)::rest) pend a w:=by
 refine⟨o,ho,?_⟩;dsimp only;rw [if_pos hg];exact h _ (fun _ h=>h)
theorem ax {i k:Nat}{rest:List (Nat×Bool×Nat)}{pend:List Pend}{a:Act}{w:World}{o:Oper}(ho:ops[i]?=some o)(hg:Region.wanted o (yielded ops a.tmps)=false)
  (h:eV P ops Q rest (⟨o,a,a,k⟩::pend) (a.put o.dst undef) w):eV P ops Q ((i,false,k)::rest) pend a w:=by
 refine⟨o,ho,?_⟩;dsimp only;rw [if_neg (by simp [hg])];exact h
def gb (ops:Array Oper):Nat→Nat→Nat→Bool
 | 0,_,_=>false
 | n+1,k,i=>match ops[k]? with
  | none=>false
  | some o=>o.after.any fun e=>Region.binds .any e&&(e.on == i||gb ops n e.on i)
def ClosedL (ops:Array Oper)(listed:Array Bool):Prop :=
 ∀j o,ops[j]?=some o→listed.getD j false=true→∀e∈o.after,Region.binds .any e=true→listed.getD e.on false=true
theorem fl {listed:Array Bool}(hc:ClosedL ops listed):∀(n k i:Nat),gb ops n k i=true→listed.getD k false=true→listed.getD i false=true
 | 0,_,_,h,_=>by simp [gb]at h
 | n+1,k,i,h,hk=>by
  unfold gb at h;split at h
  ·cases h
  ·rename_i o ho
   obtain⟨e,he,hb⟩:=Array.any_eq_true'.1 h;simp only [Bool.and_eq_true,Bool.or_eq_true,beq_iff_eq]at hb;have h1:=hc k o ho hk e he hb.1;rcases hb.2 with h2|h2
   ·rw [h2]at h1;exact h1
   ·exact fl hc n e.on i h2 h1
theorem ClosedL.set {listed:Array Bool}{i:Nat}(hc:ClosedL ops listed)(hi:i∈Region.ready .any ops listed):ClosedL ops (listed.setIfInBounds i true):=by
 obtain⟨_,oi,hoi,hall⟩:=mem_ready.1 hi;intro j oj hj hl e he hb;by_cases hij:i=j
 ·subst hij
  have:oj=oi:=Option.some.inj (hj.symm.trans hoi);subst this;exact getD_set_true (hall e he hb)
 ·rw [getD_set_ne false hij]at hl
  exact getD_set_true (hc j oj hj hl e he hb)
def dw (P:Program)(ops:Array Oper)(Q:Exit→Act→World→Prop)(S:Array Bool→World→Prop):Nat→Array Bool→Act→World→Prop
 | 0,listed,a,w=>Region.ready .any ops listed = []∧Q .normal a w
 | fuel+1,listed,a,w =>
  (Region.ready .any ops listed = []→Q .normal a w) ∧
  ∀i∈Region.ready .any ops listed,wpOp P ops Q i (fun a' w'=>S (listed.setIfInBounds i true) w'∧dw P ops Q S fuel (listed.setIfInBounds i true) a' w') a w
theorem jl {S:Array Bool→World→Prop}:∀(fuel:Nat) (listed:Array Bool) (a:Act) (w:World),dw P ops Q S fuel listed a w→wpAny P .any ops Q fuel listed a w
 | 0,_,_,_,h=>h
 | fuel+1,_,_,_,h=>⟨h.1,fun i hi=>wpOp_mono (fun a' w' h'=>jl fuel _ a' w' h'.2) (h.2 i hi)⟩
theorem fS {S S':Array Bool→World→Prop}{G:Array Bool→Prop}(hG:∀l i,G l→G (l.setIfInBounds i true))(hS:∀l w,G l→S l w→S' l w) :
  ∀(fuel:Nat) (listed:Array Bool) (a:Act) (w:World),G listed→dw P ops Q S fuel listed a w→dw P ops Q S' fuel listed a w
 | 0,_,_,_,_,h=>h
 | fuel+1,listed,_,_,hl,h=>⟨h.1,fun i hi=>wpOp_mono (fun a' w' h'=>⟨hS _ _ (hG listed i hl) h'.1,fS hG hS fuel _ a' w' (hG listed i hl) h'.2⟩) (h.2 i hi)⟩
def AsAt (ops:Array Oper)(o:Oper)(a0 a:Act):Prop :=
 execOp a.eval o=execOp a0.eval o∧Region.wanted o (yielded ops a.tmps)=Region.wanted o (yielded ops a0.tmps)∧a.tmps.size=a0.tmps.size
theorem wn (a:Act)(d:Option Tmp)(v:Value):(a.put d v).tmps.size=a.tmps.size:=by
 cases d<;>simp [Act.put]
theorem AsAt.put {o:Oper}{a0 a:Act}(h:AsAt ops o a0 a)(hs:∀cs b,o.op≠.select cs b)(d:Option Tmp)(v:Value)(hd:∀t,d=some t→t ∉ o.looksAt ops):AsAt ops o a0 (a.put d v) :=
 ⟨(execOp_put o hs a d v hd).trans h.1,(wanted_put o a d v hd).trans h.2.1,(wn a d v).trans h.2.2⟩
theorem tA {j:Nat}{oi oj:Oper}{v:Value}{a0:Act}(hj:ops[j]?=some oj)(hap:oi.apart ops oj=true)
  (hsi:∀cs b,oi.op≠.select cs b) (hsj:∀cs b,oj.op≠.select cs b)
  (hQ:∀c a w,Q (.panic c) (a.put oi.dst v) w→Q (.panic c) a w) {K:Act→World→Prop} {a:Act} {w:World}
  (hy:AsAt ops oi a0 a) (h:wpOp P ops Q j K (a.put oi.dst v) w) :
  wpOp P ops Q j (fun a' w'=>AsAt ops oi a0 a'∧K (a'.put oi.dst v) w') a w:=by
 obtain⟨h1,h2,h3⟩:=Oper.apart_spec hap;have keep:∀(a:Act),AsAt ops oi a0 a→∀u,AsAt ops oi a0 (a.put oj.dst u):=fun a hy u=>hy.put hsi oj.dst u h3;have keepD:∀d,AsAt ops oi a0 { a with defers:=d::a.defers }:=fun d=>⟨hy.1,hy.2.1,hy.2.2⟩;unfold wpOp at *;simp only [hj]at *;rw [wanted_put oj a oi.dst v h1]at h;split
 ·rename_i hw
  simp only [hw,if_true]at h;rcases h with h|⟨hasks,hlets⟩
  case inr=>exact .inr ⟨by unfold Oper.asks at *;rw [execOp_put oj hsj a oi.dst v h1]at hasks;exact hasks,hlets⟩
  refine .inl ?_;unfold Oper.wp at *;rw [execOp_put oj hsj a oi.dst v h1]at h;generalize (execOp a.eval oj).run P w=r at *;cases r with
  | ok n w' =>
   cases n<;>simp only [Oper.upon]at h ⊢
   case value u=>exact⟨keep a hy u,by rw [←Act.put_comm a v u h2];exact h⟩
   case skip=>exact⟨keep a hy _,by rw [←Act.put_comm a v undef h2];exact h⟩
   case defer d =>
    refine⟨keep _ (keepD d) _,?_⟩;rw [←Act.put_comm _ v undef h2,←Act.put_defers];exact h
   case enter f args =>
    refine Calls.mono h fun e w'' he=>?_;cases e with
    | returned u=>exact⟨keep a hy u,by rw [←Act.put_comm a v u h2];exact he⟩
    | panicked c=>exact hQ _ _ _ he
    | outgrown=>exact he
   case row row args=>exact Rows.mono h fun u w'' he=>⟨keep a hy u,by rw [←Act.put_comm a v u h2];exact he⟩
  | halt x w' =>
   cases x<;>simp only [Oper.upon]at h ⊢
   case panic u=>exact hQ _ _ _ h
 ·rename_i hw
  simp only [hw]at h;exact⟨keep a hy _,by rw [←Act.put_comm a v undef h2];exact h⟩
def SP (P:Program)(ops:Array Oper)(pend:List Pend)(listed:Array Bool)(w:World):Prop :=
 ∀x∈pend,listed.getD x.k false=false→x.ok P ops w
theorem gQ {i:Nat}{o:Oper}{a:Act}{K:Act→Prop}{w:World}(hi:ops[i]?=some o)
  (h:if Region.wanted o (yielded ops a.tmps)then o.still P a w K else K (a.put o.dst undef)):stOp P ops w i K a:=by
 unfold stOp;simp only [hi];exact h
theorem YieldsAt.asAt {o:Oper}{v:Value}{a0 a:Act}{w:World}(hy:YieldsAt P ops w o v a0)(h:AsAt ops o a0 a):YieldsAt P ops w o v a:=hy.of_same h.1 h.2.1
theorem mG {a0 a:Act}{d:Option Tmp}{v v':Value}(hs:a.tmps.size=a0.tmps.size)(h:a0.put d v'=a0.put d v):a.put d v'=a.put d v:=by
 cases d with
 | none=>rfl
 | some d =>
  simp only [Act.put,Act.mk.injEq,and_true]at h ⊢;rcases Nat.lt_or_ge d a0.tmps.size with hd|hd
  ·have e:=congrArg (fun t=>t[d]?) h
   simp [hd]at e;rw [e]
  ·have h1:a.tmps.size≤d:=by omega
   rw [Array.setIfInBounds_eq_of_size_le h1,Array.setIfInBounds_eq_of_size_le h1]
theorem wD {i k:Nat}{oi:Oper}{v:Value}{a0 b0:Act}{pend:List Pend}(hi:ops[i]?=some oi)(hsel:∀(j:Nat) (o:Oper) cs b,ops[j]?=some o→o.op≠.select cs b)
  (hb0:Region.wanted oi (yielded ops a0.tmps)=true→b0=a0.put oi.dst v) (hv:Region.wanted oi (yielded ops a0.tmps)=false→v=undef)
  (hk:k≠i) (hpk:∀x∈pend,x.k≠i) (hw:k<ops.size→∃n,gb ops n k i=true)
  (hQ:∀c a w,Q (.panic c) (a.put oi.dst v) w→Q (.panic c) a w) :
  ∀(fuel:Nat) (listed:Array Bool) (a:Act) (w:World),listed.size=ops.size→ClosedL ops listed →
   (∀j oj,ops[j]?=some oj→j≠i→listed.getD j true=false→(∀e∈oj.after,Region.binds .any e=true→e.on≠i)→oi.apart ops oj=true) →
   i∈Region.ready .any ops listed→AsAt ops oi a0 a→(∃v',YieldsAt P ops w oi v' a∧a0.put oi.dst v'=a0.put oi.dst v)→SP P ops pend listed w →
   dw P ops Q (SP P ops (⟨oi,a0,b0,k⟩::pend)) fuel (listed.setIfInBounds i true) (a.put oi.dst v) w→dw P ops Q (SP P ops pend) (fuel+1) listed a w:=by
 intro fuel;have fin:∀ {f:Nat} {listed:Array Bool} {a:Act} {w:World},AsAt ops oi a0 a→(∃v',YieldsAt P ops w oi v' a∧a0.put oi.dst v'=a0.put oi.dst v)→SP P ops pend listed w →
   dw P ops Q (SP P ops (⟨oi,a0,b0,k⟩::pend)) f (listed.setIfInBounds i true) (a.put oi.dst v) w →
   wpOp P ops Q i (fun a' w'=>SP P ops pend (listed.setIfInBounds i true) w'∧dw P ops Q (SP P ops pend) f (listed.setIfInBounds i true) a' w') a w:=by
  intro f listed a w ha ⟨v',hy,he⟩ hS H;refine wpOp_of_stOp (K:=fun a'=>a'=a.put oi.dst v) (fun a' ha'=>?_) (hy.stOp hi (mG ha.2.2 he));subst ha';refine⟨fun x hx hl=>hS x hx ?_,fS (G:=fun _=>True) (fun _ _ _=>trivial) (fun l w _ h x hx=>h x (F4 _ hx)) f _ _ _ trivial H⟩;rw [getD_set_ne false (Ne.symm (hpk x hx))]at hl;exact hl
 induction fuel with
 | zero =>
  intro listed a w hsz hc _ hr ha hy hS H;refine⟨fun h=>(by rw [h]at hr;cases hr),fun j hj=>?_⟩;by_cases hji:j=i
  ·subst hji;exact fin ha hy hS H
  ·have:=ready_mono hj hji
   rw [H.1]at this;cases this
 | succ fuel ih =>
  intro listed a w hsz hc hfree hr ha hy hS H;refine⟨fun h=>(by rw [h]at hr;cases hr),fun j hj=>?_⟩;by_cases hji:j=i
  ·subst hji;exact fin ha hy hS H
  ·have h1:=H.2 j (ready_mono hj hji)
   obtain⟨hjun,oj,hoj,hall⟩:=mem_ready.1 hj;have hiun:=getD_both (mem_ready.1 hr).1;have hnot:∀e∈oj.after,Region.binds .any e=true→e.on≠i:=fun e he hb heq=>by
    have h1:=hall e he hb;rw [heq,hiun]at h1;cases h1
   have h2:=tA hoj (hfree j oj hoj hji hjun hnot) (fun cs b=>hsel i oi cs b hi) (fun cs b=>hsel j oj cs b hoj) hQ ha h1;have hfree':∀k ok,ops[k]?=some ok→k≠i→(listed.setIfInBounds j true).getD k true=false →
     (∀e∈ok.after,Region.binds .any e=true→e.on≠i)→oi.apart ops ok=true:=fun k ok hk hki hun hno=>by
    refine hfree k ok hk hki ?_ hno;by_cases hjk:j=k
    ·subst hjk;exact hjun
    ·rw [getD_set_ne true hjk]at hun;exact hun
   refine wpOp_mono (fun a' w' h3=>?_) h2;obtain⟨ha',hS',h4⟩:=h3;have hc':=hc.set hj;have hkun:∀l:Array Bool,ClosedL ops l→l.size=ops.size→l.getD i false=false→l.getD k false=false:=by
    intro l hcl hls hil;by_cases hks:k<ops.size
    ·obtain⟨n,hn⟩:=hw hks
     cases hkl:l.getD k false with
     | false=>rfl
     | true=>rw [fl hcl n k i hn hkl]at hil;cases hil
    ·simp [Array.getElem?_eq_none (show l.size≤k by omega)]
   have hij:(listed.setIfInBounds j true).getD i false=false:=by rw [getD_set_ne false hji];exact hiun
   have hkj:(listed.setIfInBounds j true).getD k false=false:=hkun _ hc' (by simpa using hsz) hij;have hSP:SP P ops pend (listed.setIfInBounds j true) w':=fun x hx hl=>by
    refine hS' x (F4 _ hx) ?_;rw [Array.setIfInBounds_comm _ _ (Ne.symm hji),getD_set_ne false (Ne.symm (hpk x hx))];exact hl
   refine⟨hSP,ih (listed.setIfInBounds j true) a' w' (by simpa using hsz) hc' hfree' (ready_mono hr (Ne.symm hji)) ha' ?_ hSP ?_⟩
   ·have hok:=hS' ⟨oi,a0,b0,k⟩ (by simp) (by rw [Array.setIfInBounds_comm _ _ (Ne.symm hji),getD_set_ne false (Ne.symm hk)];exact hkj)
    unfold Pend.ok at hok;by_cases hwt:Region.wanted oi (yielded ops a0.tmps)=true
    ·simp only [hwt,if_true]at hok
     obtain⟨v',hv',he⟩:=yieldsAt_of_stOp hi (gQ (ops:=ops) (K:=fun b=>b=b0) hi (by rw [if_pos hwt];exact hok));exact⟨v',YieldsAt.asAt hv' ha',he.trans (hb0 hwt)⟩
    ·have hwf:Region.wanted oi (yielded ops a0.tmps)=false:=by simpa using hwt
     exact⟨v,.inr ⟨ha'.2.1.trans hwf,hv hwf⟩,rfl⟩
   ·rw [Array.setIfInBounds_comm _ _ hji]
    exact h4
def cX (ops:Array Oper)(effs:List Nat):List (Nat×Bool×Nat)→Array Bool→Bool
 | [],listed=>(Region.ready .any ops listed).isEmpty
 | (i,false,k)::rest,listed=>(Region.ready .any ops listed).contains i&&Region.free .any ops listed i && !effs.contains i&&(decide (ops.size≤k)||(effs.contains k&&gb ops ops.size k i)) &&
   cX ops effs rest (listed.setIfInBounds i true)
 | (i,true,_)::rest,listed=>decide (Region.ready .any ops listed = [i])&&effs.contains i&&cX ops effs rest (listed.setIfInBounds i true)
theorem cD {i:Nat}{x:Pend}:∀ {l:List Pend},x∈bq i l→x∈l∧x.k≠i
 | y::l,h=>by
  unfold bq at h;split at h
  ·have:=cD h;exact⟨F4 _ this.1,this.2⟩
  ·rcases Gl.1 h with rfl|h
   ·exact⟨by simp,by assumption⟩
   ·have:=cD h;exact⟨F4 _ this.1,this.2⟩
theorem dQ {i:Nat}{x:Pend}:∀ {l:List Pend},x∈l→x.k≠i→x∈bq i l
 | y::l,h,hk=>by
  unfold bq;rcases Gl.1 h with rfl|h
  ·rw [if_neg hk];simp
  ·split
   ·exact dQ h hk
   ·exact F4 _ (dQ h hk)
theorem fB {i:Nat}{x:Pend}{w:World}:∀ {l:List Pend},ec P ops i l w→x∈l→x.k≠i→x.ok P ops w
 | y::l,h,hx,hk=>by
  unfold ec at h;rcases Gl.1 hx with rfl|hx
  ·rw [if_neg hk]at h;exact h.1
  ·split at h
   ·exact fB h hx hk
   ·exact fB h.2 hx hk
theorem kD (hs:Region.noSelect ops=true){Qn:Exit→Act→World→Prop}(hnorm:∀a w,Q .normal a w→Qn .normal a w)(hout:∀a w,Q .outgrown a w→Qn .outgrown a w)
  (hQ:∀c (a:Act) (d:Option Tmp) (v:Value) (w:World),Qn (.panic c) (a.put d v) w→Qn (.panic c) a w) (effs:List Nat) :
  ∀(sched:List (Nat×Bool×Nat)) (pend:List Pend) (listed:Array Bool) (a:Act) (w:World),cX ops effs sched listed=true→listed.size=ops.size→ClosedL ops listed →
   (∀x∈pend,ops.size≤x.k∨effs.contains x.k=true)→SP P ops pend listed w→eV P ops Q sched pend a w→dw P ops Qn (SP P ops pend) sched.length listed a w
 | [],pend,listed,a,w,hB,_,_,_,_,h=>⟨by simpa [cX]using hB,hnorm _ _ h⟩
 | (i,false,k)::rest,pend,listed,a,w,hB,hsz,hc,hp,hS,h=>by
  simp only [cX,Bool.and_eq_true,Bool.or_eq_true,decide_eq_true_eq,Bool.not_eq_true']at hB;obtain⟨⟨⟨⟨hr,hf⟩,hne⟩,hk⟩,hB'⟩:=hB;obtain⟨o,ho,h⟩:=h;dsimp only at h;have hr':i∈Region.ready .any ops listed:=by simpa using hr
  have hilt:i<ops.size:=(Array.getElem?_eq_some_iff.1 ho).1;have hki:k≠i:=fun e=>by subst e;rcases hk with hk|hk<;>first|omega|(rw [hne]at hk;cases hk.1)
  have hpk:∀x∈pend,x.k≠i:=fun x hx e=>by
   rcases hp x hx with h1|h1
   ·omega
   ·rw [e,hne]at h1;cases h1
  have hw:k<ops.size→∃n,gb ops n k i=true:=fun hlt=>by
   rcases hk with hk|hk
   ·omega
   ·exact⟨_,hk.2⟩
  have hc':=hc.set hr';have step:∀(b0:Act) (v:Value),(Region.wanted o (yielded ops a.tmps)=true→b0=a.put o.dst v)→(Region.wanted o (yielded ops a.tmps)=false→v=undef)→YieldsAt P ops w o v a →
    (⟨o,a,b0,k⟩:Pend).ok P ops w→eV P ops Q rest (⟨o,a,b0,k⟩::pend) (a.put o.dst v) w→dw P ops Qn (SP P ops pend) ((i,false,k)::rest).length listed a w:=by
   intro b0 v hb0 hv hy hok hrest;refine wD ho (Region.noSelect_spec hs) hb0 hv hki hpk hw (fun c a w=>hQ c a _ _ w) rest.length listed a w hsz hc (Region.free_spec ho hf) hr' ⟨rfl,rfl,rfl⟩ ⟨v,hy,rfl⟩ hS ?_;refine kD hs hnorm hout hQ effs rest _ _ _ _ hB' (by simpa using hsz) hc' (fun x hx=>?_) (fun x hx hl=>?_) hrest
   ·rcases Gl.1 hx with rfl|hx
    ·rcases hk with hk|hk
     ·exact .inl hk
     ·exact .inr hk.1
    ·exact hp x hx
   ·rcases Gl.1 hx with rfl|hx
    ·exact hok
    ·refine hS x hx ?_
     rw [getD_set_ne false (Ne.symm (hpk x hx))]at hl;exact hl
  by_cases hwt:Region.wanted o (yielded ops a.tmps)=true
  ·rw [if_pos hwt]at h
   obtain⟨v,hy,hK⟩:=yieldsAt_of_stOp (ops:=ops) ho (gQ (ops:=ops) ho (by rw [if_pos hwt];exact h));refine step (a.put o.dst v) v (fun _=>rfl) (fun e=>by rw [hwt]at e;cases e) hy ?_ hK;have:=hy.stOp ho (K:=fun b=>b=a.put o.dst v) rfl;unfold stOp at this;simp only [ho]at this;unfold Pend.ok;rw [if_pos hwt]at this ⊢;exact this
  ·have hwf:Region.wanted o (yielded ops a.tmps)=false:=by simpa using hwt
   rw [if_neg hwt]at h;exact step a undef (fun e=>absurd e hwt) (fun _=>rfl) (.inr ⟨hwf,rfl⟩) (by unfold Pend.ok;rw [if_neg hwt];trivial) h
 | (i,true,k)::rest,pend,listed,a,w,hB,hsz,hc,hp,hS,h=>by
  simp only [cX,Bool.and_eq_true,decide_eq_true_eq]at hB;obtain⟨⟨hr,he⟩,hB'⟩:=hB;obtain⟨o,ho,h⟩:=h;dsimp only at h;refine⟨fun h0=>(by rw [h0]at hr;cases hr),fun j hj=>?_⟩;have hji:j=i:=by rw [hr]at hj;simpa using hj
  subst hji;have hc':=hc.set hj;have hsz':(listed.setIfInBounds j true).size=ops.size:=by simpa using hsz
  have hjlt:j<listed.size:=by rw [hsz];exact(Array.getElem?_eq_some_iff.1 ho).1
  have fin:∀b w',(ec P ops j pend w'∧eV P ops Q rest (bq j pend) b w') →
    SP P ops pend (listed.setIfInBounds j true) w'∧dw P ops Qn (SP P ops pend) rest.length (listed.setIfInBounds j true) b w':=by
   intro b w' ⟨h1,h2⟩;have hlist:(listed.setIfInBounds j true).getD j false=true:=by simp [hjlt]
   have hSP:SP P ops pend (listed.setIfInBounds j true) w':=fun x hx hl=>by
    by_cases hxj:x.k=j
    ·rw [hxj,hlist]at hl;cases hl
    ·exact fB h1 hx hxj
   refine⟨hSP,?_⟩;have hk2:SP P ops (bq j pend) (listed.setIfInBounds j true) w':=fun x hx hl=>hSP x (cD hx).1 hl;have ih:=kD hs hnorm hout hQ effs rest _ _ _ _ hB' hsz' hc' (fun x hx=>hp x (cD hx).1) hk2 h2;refine fS (G:=fun l=>l.getD j false=true) (fun l i hl=>getD_set_true hl) (fun l w hl hh x hx hxl=>?_) _ _ _ _ hlist ih;by_cases hxj:x.k=j
   ·rw [hxj,hl]at hxl;cases hxl
   ·exact hh x (dQ hx hxj) hxl
  unfold wpOp;simp only [ho];unfold wpList at h;split
  ·rename_i hwt
   rw [if_pos hwt]at h;rcases h with h|⟨h1,b,w',h2⟩
   ·refine .inl ?_
    unfold Oper.wp at *;generalize (execOp a.eval o).run P w=r at *;cases r with
    | ok n w' =>
     cases n<;>simp only [Oper.upon]at h ⊢
     case value u=>exact fin _ _ h
     case skip=>exact fin _ _ h
     case defer d=>exact fin _ _ h
     case enter f args =>
      refine Calls.mono h fun e w'' he=>?_;cases e with
      | returned u=>exact fin _ _ he
      | panicked c=>exact(he:False).elim
      | outgrown=>obtain⟨b,w3,h3⟩:=he;exact⟨b,w3,hout _ _ h3⟩
     case row row args=>exact Rows.mono h fun u w'' he=>fin _ _ he
    | halt x w' =>
     cases x<;>simp only [Oper.upon]at h ⊢
     case panic u=>exact(h:False).elim
   ·exact .inr ⟨h1,b,w',hout _ _ h2⟩
  ·rename_i hwt
   rw [if_neg hwt]at h;exact fin _ _ h
theorem kZ {id:Nat}{a:Act}{w:World}{l:List Oper}(sched:List (Nat×Bool×Nat))(hm:P.follows .mixedOrders=true)
  (hB:(Region.noSelect l.toArray&&(decide (sched.length=l.length)&&cX l.toArray ((sched.filter (·.2.1)).map (·.1)) sched (Array.replicate l.toArray.size false)))=true)
  (h:eV P l.toArray Q sched [] a w.drew):(Code.region id l.toArray true).wp P Q a w:=by
 simp only [Bool.and_eq_true,decide_eq_true_eq]at hB;obtain⟨hs,hlen,hB⟩:=hB;have key:dw P l.toArray (NoPanic Q) (SP P l.toArray []) sched.length (Array.replicate l.toArray.size false) a w.drew:=by
  refine kD (Q:=Q) (Qn:=NoPanic Q) hs (fun _ _ h=>h) (fun _ _ h=>h) (fun c a d v w h=>(h:False).elim) _ sched [] _ a _ hB (by simp) (fun j o hj hl=>?_) (fun x hx=>by cases hx) (fun x hx=>by cases hx) h;rw [getD_replicate_false]at hl;cases hl
 have hz:sched.length=l.toArray.size:=by simpa using hlen
 rw [hz]at key;exact wp_region_noPanic (wp_region_any hm (jl _ _ _ _ key))
theorem aH {P:Program}{id:Nat}{a:Act}{w:World}{l:List Oper}{Q:Exit→Act→World→Prop}(sched:List (Nat×Bool×Nat))(h:eV P l.toArray Q sched [] a w.drew)(hm:P.follows .mixedOrders=true:=by kernel_rfl)(hB:(Region.noSelect l.toArray&&(decide (sched.length=l.length)&&cX l.toArray ((sched.filter (·.2.1)).map (·.1)) sched (Array.replicate l.toArray.size false)))=true:=by kernel_rfl):(Code.region id l.toArray true).wp P Q a w:=kZ sched hm hB h
end
structure Kept (S:Nat→Prop)(w w':World):Prop where
 os:w'.os=w.os
 tape:w'.tape=w.tape
 output:w'.output=w.output
 size:w.heap.size≤w'.heap.size
 block:∀k,k<w.heap.size→¬S k→w'.heap[k]?=w.heap[k]?
attribute [go_sem] Lib.run_eql_slice_nil
namespace Kept
variable {S T : Nat → Prop} {w w1 w2 : World}
theorem refl (S:Nat→Prop)(w:World):Kept S w w:=⟨rfl,rfl,rfl,Gn _,fun _ _ _=>rfl⟩
theorem trans (h:Kept S w w1)(k:Kept T w1 w2)(hT:∀k,T k→S k∨w.heap.size≤k):Kept S w w2 :=
 ⟨k.os.trans h.os,k.tape.trans h.tape,k.output.trans h.output,Gq h.size k.size,fun i hi hs=>by
  have hnt:¬T i:=fun ht=>(hT i ht).elim hs (fun h1=>by omega);rw [k.block i (Nat.lt_of_lt_of_le hi h.size) hnt,h.block i hi hs]⟩
theorem mono (h:Kept S w w1)(hT:∀k,k<w.heap.size→S k→T k):Kept T w w1:=⟨h.os,h.tape,h.output,h.size,fun i hi hs=>h.block i hi (fun h1=>hs (hT i hi h1))⟩
theorem drew (h:Kept S w w1):Kept S w w1.drew:=⟨h.os,h.tape,h.output,h.size,h.block⟩
theorem drewN (h:Kept S w w1)(n:Nat):Kept S w (w1.drewN n):=⟨h.os,h.tape,h.output,h.size,h.block⟩
theorem alloc (h:Kept S w w1)(o:Obj):Kept S w (w1.alloc o):=h.trans (T:=fun _=>False) ⟨rfl,rfl,rfl,by simp,fun k hk _=>Below.heap_alloc _ _ _ hk⟩ (fun _ h=>h.elim)
theorem setCell (h:Kept S w w1)(p:Addr)(u:Value)(hp:S p.block∨w.heap.size≤p.block):Kept S w (w1.setCell p u) :=
 h.trans (T:=fun k=>k=p.block) ⟨rfl,rfl,rfl,by simp [World.setCell],fun k _ hk=>Below.heap_setCell _ _ _ _ hk⟩ (fun _ h=>h▸hp)
theorem set_at (w:World)(b j:Nat)(u:Value):Kept (fun k=>k=b) w (w.setCell ⟨b,j,none⟩ u):=(refl _ w).setCell ⟨b,j,none⟩ u (.inl rfl)
theorem below (h:Kept S w w1){B:Nat}(hB:B≤w.heap.size)(hS:∀k,S k→B≤k):Below B w w1:=⟨h.os,h.tape,h.output,h.size,fun k hk=>h.block k (by omega) (fun hs=>by have:=hS k hs;omega)⟩
theorem cell (h:Kept S w w1){p:Addr}(hp:p.block<w.heap.size)(hs:¬S p.block):w1.cell? p=w.cell? p:=World.cell?_of_block (h.block _ hp hs)
theorem frozen (h:Kept S w w1){p:Addr}(hp:p.block<w.heap.size)(hs:¬S p.block):w1.frozen? p=w.frozen? p:=World.frozen?_of_block (h.block _ hp hs)
theorem cell' (h:Kept S w w1){p:Addr}{u:Value}(hc:w.cell? p=some u)(hs:¬S p.block):w1.cell? p=some u:=(h.cell (World.block_lt_of_cell? w p hc) hs).trans hc
end Kept
theorem aw {w:World}{g:Nat}{o:Obj}(h:w.heap[g]?=some o):g<w.heap.size:=(Array.getElem?_eq_some_iff.1 h).1
theorem ew (g o n:Nat):(⟨g,o,none⟩:Addr).add n=⟨g,o+n,none⟩:=by unfold Addr.add;split<;>simp_all
def Rd (w:World)(size:Nat)(v:Value)(n:Nat)(xs:List Value):Prop :=
 xs.length=n*size∧n≤maxLen∧∃ao cap,v = .slice ao n cap∧n≤cap∧cap≤maxLen∧(ao=none→cap=0)∧(n=0∨∃g o,ao=some ⟨g,o,none⟩∧∀j u,xs[j]?=some u→w.cell? ⟨g,o+j,none⟩=some u)
theorem Rd.nil (w:World)(size:Nat):Rd w size (.slice none 0 0) 0 []:=⟨by simp,Gp _,none,0,rfl,Gn _,Gp _,fun _=>rfl,.inl rfl⟩
theorem Rd.frame {w w':World}{size:Nat}{v:Value}{n:Nat}{xs:List Value}(h:Rd w size v n xs)(hb:∀g,v.ownBlock=some g→g<w.heap.size→w'.heap[g]?=w.heap[g]?):Rd w' size v n xs:=by
 obtain⟨h1,h2,ao,cap,rfl,h3,h4,h5,h6⟩:=h;refine⟨h1,h2,ao,cap,rfl,h3,h4,h5,?_⟩;rcases h6 with h6|⟨g,o,rfl,h6⟩
 ·exact .inl h6
 ·refine .inr ⟨g,o,rfl,fun j u hu=>?_⟩
  have hc:=h6 j u hu;rw [World.cell?_of_block (w:=w) (hb g rfl (World.block_lt_of_cell? w _ hc))];exact hc
theorem Rd.kept {S:Nat→Prop}{w w':World}{size:Nat}{v:Value}{n:Nat}{xs:List Value}(h:Rd w size v n xs)(hk:Kept S w w')(hS:∀g,v.ownBlock=some g→¬S g):Rd w' size v n xs :=
 h.frame (fun g hg hl=>hk.block g hl (hS g hg))
def Own (w:World)(e:TypeId)(size:Nat)(v:Value)(n:Nat)(xs:List Value):Prop :=
 xs.length=n*size∧(∀u∈xs,u.oneCell'=true) ∧
 ((v = .slice none 0 0∧n=0)∨∃g cap cur,v = .slice (some ⟨g,0,none⟩) n cap∧w.heap[g]?=some (.cells cur e (0,0))∧n≤cap∧cap≤maxLen∧cap*size≤cur.size∧cur.toList.take (n*size)=xs)
theorem Own.nil (w:World)(e:TypeId)(size:Nat):Own w e size (.slice none 0 0) 0 []:=⟨by simp,by simp,.inl ⟨rfl,rfl⟩⟩
theorem Own.frame {w w':World}{e:TypeId}{size:Nat}{v:Value}{n:Nat}{xs:List Value}(h:Own w e size v n xs)(hb:∀g,v.ownBlock=some g→g<w.heap.size→w'.heap[g]?=w.heap[g]?):Own w' e size v n xs:=by
 refine⟨h.1,h.2.1,?_⟩;rcases h.2.2 with h1|⟨g,cap,cur,rfl,hg,hr⟩
 ·exact .inl h1
 ·exact .inr ⟨g,cap,cur,rfl,(hb g rfl (aw hg)).trans hg,hr⟩
theorem Own.kept {S:Nat→Prop}{w w':World}{e:TypeId}{size:Nat}{v:Value}{n:Nat}{xs:List Value}(h:Own w e size v n xs)(hk:Kept S w w')(hS:∀g,v.ownBlock=some g→¬S g):Own w' e size v n xs :=
 h.frame (fun g hg hl=>hk.block g hl (hS g hg))
theorem Own.lt {w:World}{e:TypeId}{size:Nat}{v:Value}{n:Nat}{xs:List Value}(h:Own w e size v n xs):∀g,v.ownBlock=some g→g<w.heap.size:=by
 intro g hg;rcases h.2.2 with ⟨rfl,_⟩|⟨g',cap,cur,rfl,hh,_⟩
 ·cases hg
 ·simp [Value.ownBlock]at hg;subst hg;exact aw hh
theorem Own.le {w:World}{e:TypeId}{size:Nat}{v:Value}{n:Nat}{xs:List Value}(h:Own w e size v n xs):n≤maxLen:=by
 rcases h.2.2 with ⟨_,rfl⟩|⟨g',cap,cur,rfl,hh,h1,h2,_⟩
 ·exact Gp _
 ·omega
theorem Own.cells {w:World}{e:TypeId}{size:Nat}{g n cap:Nat}{xs:List Value}(h:Own w e size (.slice (some ⟨g,0,none⟩) n cap) n xs):∀j u,xs[j]?=some u→w.cell? ⟨g,j,none⟩=some u:=by
 intro j u hu;rcases h.2.2 with ⟨h1,_⟩|⟨g',cap',cur,hv,hh,h1,h2,h3,h4⟩
 ·cases h1
 ·cases hv
  rw [cell_of_row w g j cur e (0,0) hh];rw [←h4,List.getElem?_take]at hu;split at hu
  ·simpa using hu
  ·cases hu
theorem Own.form {w:World}{e:TypeId}{size:Nat}{v:Value}{n:Nat}{xs:List Value}(h:Own w e size v n xs)(hn:0<n):∃g cap,v = .slice (some ⟨g,0,none⟩) n cap∧n≤cap∧cap≤maxLen:=by
 rcases h.2.2 with ⟨_,h1⟩|⟨g,cap,cur,rfl,_,h1,h2,_⟩
 ·omega
 ·exact⟨g,cap,rfl,h1,h2⟩
theorem Own.rd {w:World}{e:TypeId}{size:Nat}{v:Value}{n:Nat}{xs:List Value}(h:Own w e size v n xs):Rd w size v n xs:=by
 have h0:=h;refine⟨h.1,h.le,?_⟩;rcases h.2.2 with ⟨rfl,rfl⟩|⟨g,cap,cur,rfl,hh,h1,h2,h3,h4⟩
 ·exact⟨none,0,rfl,Gn _,Gp _,fun _=>rfl,.inl rfl⟩
 ·exact⟨some ⟨g,0,none⟩,cap,rfl,h1,h2,fun h=>by simp at h,.inr ⟨g,0,rfl,fun j u hu=>by rw [Nat.zero_add];exact h0.cells j u hu⟩⟩
theorem Own.cut {w:World}{e:TypeId}{size:Nat}{g n cap:Nat}{xs:List Value}(h:Own w e size (.slice (some ⟨g,0,none⟩) n cap) n xs){m c:Nat}(hm:m≤n)(hc:m≤c)(hc':c≤cap):Own w e size (.slice (some ⟨g,0,none⟩) m c) m (xs.take (m*size)):=by
 have hl:m*size≤n*size:=Nat.mul_le_mul_right _ hm;have hl2:c*size≤cap*size:=Nat.mul_le_mul_right _ hc';refine⟨by rw [F0,h.1];omega,fun u hu=>h.2.1 u (Gf hu),?_⟩;rcases h.2.2 with ⟨h1,_⟩|⟨g',cap',cur,hv,hh,h1,h2,h3,h4⟩
 ·cases h1
 ·cases hv
  refine .inr ⟨g,c,cur,rfl,hh,hc,by omega,by omega,?_⟩;rw [←h4,List.take_take,Nat.min_eq_left hl]
section
variable {P : Program} (w : World)
theorem own_fresh {w0:World}{e:TypeId}{size n cap:Nat}{xs:List Value}{zs:Array Value}(hx:xs.length=n*size)(h1:∀u∈xs,u.oneCell'=true)(hn:n≤cap)(hc:cap≤maxLen)(hz:zs.size=(cap-n)*size) :
  Own (w0.alloc (.cells (xs.toArray++zs) e)) e size (.slice (some ⟨w0.heap.size,0,none⟩) n cap) n xs:=by
 refine⟨hx,h1,.inr ⟨w0.heap.size,cap,_,rfl,heap_alloc_new w0 _,hn,hc,?_,?_⟩⟩
 ·simp only [Array.size_append,List.size_toArray,hz,hx,←Nat.add_mul]
  rw [show n+(cap-n)=cap by omega];exact Gn _
 ·rw [Array.toList_append,←hx]
  exact List.take_left
theorem mM (t ty:TypeId)(e:TypeId)(i:TypeInfo)(z:Value)(size bytes:Nat)(ht:P.underlying t=some (.slice e))(hi:P.info? e=some i)(hz:i.zero=some z)
  (hsize:i.size=size) (hby:i.bytes=bytes) (hzs:z.cells.size=size)
  (v:Value) (n:Nat) (xs:List Value) (hown:Own w e size v n xs)
  (ad:Addr) (m c:Nat) (news:List Value) (hl:news.length=m*size) (hnews:∀j u,news[j]?=some u→w.cell? (ad.add j)=some u) (h1:∀u∈news,u.oneCell'=true)
  (hm:0<m) (h63:n+m≤maxLen) (hbytes:(n+m)*bytes≤140737488355328) :
  ∃g cap w',(Builtin.append_ #[t,t] ty #[v,.slice (some ad) m c]).run P w = .ok (.slice (some ⟨g,0,none⟩) (n+m) cap) w' ∧
   Own w' e size (.slice (some ⟨g,0,none⟩) (n+m) cap) (n+m) (xs++news)∧Kept (fun k=>v.ownBlock=some k) w w'∧((v.ownBlock=some g∧w'.heap.size=w.heap.size)∨(g=w.heap.size∧w'.heap.size=w.heap.size+1)):=by
 subst hsize;subst hby;have hlen:(xs++news).length=(n+m)*i.size:=by rw [FR,hown.1,hl,Nat.add_mul]
 have hone:∀u∈xs++news,u.oneCell'=true:=fun u hu=>(F2.1 hu).elim (hown.2.1 u) (h1 u);have hsmall:n+m≤9223372036854775807:=by simp only [maxLen]at h63;omega
 have grown:∀(old:Nat),
   Own (w.drew.alloc (.cells ((xs++news).toArray++Builtin.zeroCells z.cells (grownCap w (n+m) old e-(n+m))) e)) e i.size
    (.slice (some ⟨w.heap.size,0,none⟩) (n+m) (grownCap w (n+m) old e)) (n+m) (xs++news):=by
  intro old;refine own_fresh (w0:=w.drew) hlen hone (grownCap_ge w (n+m) old e) (grownCap_le_maxLen w (n+m) old e h63) ?_;rw [size_zeroCells,hzs]
 rcases hown.2.2 with ⟨rfl,rfl⟩|⟨g,cap,cur,rfl,hg,hnc,hcm,hcs,htake⟩
 ·have hx:xs = []:=List.eq_nil_of_length_eq_zero (by simpa using hown.1)
  subst hx;have hr:=run_append_nil (P:=P) w t ty e i z ht hi hz ad m c news hl hnews (by omega) (by omega) (by have hb:=hbytes;simp only [Nat.zero_add]at hb;omega);have hgr:=grown 0;simp only [Nat.zero_add,List.nil_append]at hgr ⊢;exact⟨_,_,_,hr,hgr,⟨rfl,rfl,rfl,by simp,fun k hk _=>Below.heap_alloc w.drew _ k hk⟩,.inr ⟨rfl,by simp⟩⟩
 ·by_cases hroom:n+m≤cap
  ·have hle:(n+m)*i.size≤cap*i.size:=Nat.mul_le_mul_right _ hroom
   have hfit:n*i.size+news.length≤cur.size:=by rw [hl,←Nat.add_mul];omega
   have hr:=run_append_room (P:=P) w t ty e i ht hi g n cap cur hg ad m c news hl hnews h1 hroom hfit;refine⟨_,_,_,hr,⟨hlen,hone,.inr ⟨g,cap,_,rfl,setRow_heap w g cur _ e _ hg,hroom,hcm,?_,?_⟩⟩,⟨rfl,rfl,rfl,by simp [World.setRow],fun k _ hk=>setRow_other w g k _ (fun e=>hk (by simp [Value.ownBlock,e]))⟩,.inl ⟨rfl,by simp [World.setRow]⟩⟩
   ·simp only [List.size_toArray,FR,F0,Ga,Array.length_toList]
    omega
   ·rw [htake,←hlen]
    exact List.take_left
  ·have holds:∀j u,xs[j]?=some u→w.cell? ((⟨g,0,none⟩:Addr).add j)=some u:=fun j u hu=>by rw [ew,Nat.zero_add];exact hown.cells j u hu
   have hr:=run_append_grow (P:=P) w t ty e i z ht hi hz ⟨g,0,none⟩ n cap xs hown.1 holds ad m c news hl hnews (by omega) (by omega) (growslice_fits (by omega) hbytes);have hgr:=grown cap;rw [←List.append_toArray]at hgr;exact⟨_,_,_,hr,hgr,⟨rfl,rfl,rfl,by simp,fun k hk _=>Below.heap_alloc w.drew _ k hk⟩,.inr ⟨rfl,by simp⟩⟩
theorem fd (t ty e:TypeId)(i:TypeInfo)(ht:P.underlying t=some (.slice e))(hi:P.info? e=some i)(base ao:Option Addr)(n cap c:Nat)(hn:n≤cap) :
  (Builtin.append_ #[t,t] ty #[.slice base n cap,.slice ao 0 c]).run P w = .ok (.slice base n cap) w:=by
 cases base<;>cases ao<;>simp [Builtin.append_,run_underlying ht,sizeOf,typeInfo,hi,Builtin.lenOf,Builtin.firstCells,loadCells,loadCellsFrom,storeCells,hn]
theorem jg (t ty:TypeId)(e:TypeId)(i:TypeInfo)(z:Value)(size bytes:Nat)(ht:P.underlying t=some (.slice e))(hi:P.info? e=some i)(hz:i.zero=some z)
  (hsize:i.size=size) (hby:i.bytes=bytes) (hzs:z.cells.size=size)
  (v:Value) (n:Nat) (xs:List Value) (hown:Own w e size v n xs) (x:Value) (m:Nat) (news:List Value) (hx:Rd w size x m news) (h1:∀u∈news,u.oneCell'=true)
  (h63:n+m≤maxLen) (hbytes:(n+m)*bytes≤140737488355328) :
  ∃v' w',(Builtin.append_ #[t,t] ty #[v,x]).run P w = .ok v' w' ∧
   Own w' e size v' (n+m) (xs++news)∧Kept (fun k=>v.ownBlock=some k) w w'∧(v'.ownBlock=v.ownBlock∨(v'.ownBlock=some w.heap.size∧w'.heap.size=w.heap.size+1))∧(m=0→v'=v)∧(0<m→v'.ownBlock≠none):=by
 obtain⟨hl,_,ao,c,rfl,_,_,_,hcell⟩:=hx;by_cases hm:m=0
 ·subst hm
  have hn:news = []:=List.eq_nil_of_length_eq_zero (by simpa using hl);subst hn;rw [Nat.add_zero,List.append_nil];rcases hown.2.2 with ⟨rfl,rfl⟩|⟨g,cap,cur,rfl,hg,hnc,_⟩
  ·exact⟨_,w,fd w t ty e i ht hi none ao 0 0 c (Gn _),hown,Kept.refl _ _,.inl rfl,fun _=>rfl,fun h=>absurd h (by omega)⟩
  ·exact⟨_,w,fd w t ty e i ht hi _ ao n cap c hnc,hown,Kept.refl _ _,.inl rfl,fun _=>rfl,fun h=>absurd h (by omega)⟩
 ·rcases hcell with h0|⟨g0,o0,rfl,hc⟩
  ·exact absurd h0 hm
  ·obtain⟨g,cap,w',hr,h2,h3,h4⟩:=mM w t ty e i z size bytes ht hi hz hsize hby hzs v n xs hown ⟨g0,o0,none⟩ m c news hl (fun j u hu=>by rw [ew];exact hc j u hu) h1 (by omega) h63 hbytes
   refine⟨_,w',hr,h2,h3,?_,fun h=>absurd h hm,fun _=>by simp [Value.ownBlock]⟩;rcases h4 with ⟨h4,_⟩|⟨h4,h5⟩
   ·exact .inl (by rw [h4];rfl)
   ·exact .inr ⟨by rw [h4];rfl,h5⟩
theorem kC {ops:Array Oper}{rest:List Oper}{o:Oper}{a:Act}{Q:Exit→Act→World→Prop}(hgd:o.guard=none)(s x:Operand)(t:TypeId)
  (ho:o.op = .call { callee:=.builtin .append,args:=#[s,x],argTypes:=#[t,t] })
  (e:TypeId) (i:TypeInfo) (z:Value) (size bytes:Nat) (ht:P.underlying t=some (.slice e)) (hi:P.info? e=some i) (hz:i.zero=some z)
  (hsize:i.size=size) (hby:i.bytes=bytes) (hzs:z.cells.size=size)
  (v:Value) (n:Nat) (xs:List Value) (hs:a.eval s=v) (hown:Own w e size v n xs) (xv:Value) (m:Nat) (news:List Value) (hx:a.eval x=xv) (hrd:Rd w size xv m news) (h1:∀u∈news,u.oneCell'=true)
  (h63:n+m≤maxLen) (hbytes:(n+m)*bytes≤140737488355328)
  (h:∀v' w',Own w' e size v' (n+m) (xs++news)→Kept (fun k=>v.ownBlock=some k) w w'→(v'.ownBlock=v.ownBlock∨(v'.ownBlock=some w.heap.size∧w'.heap.size=w.heap.size+1))→(m=0→v'=v)→(0<m→v'.ownBlock≠none) →
   wpList P ops Q rest (a.put o.dst v') w'):wpList P ops Q (o::rest) a w :=
 wpList_plain hgd fun _ hK=>by
  obtain⟨v',w',hr,h2,h3,h4,h5,h6⟩:=jg (P:=P) w t o.type e i z size bytes ht hi hz hsize hby hzs v n xs hown xv m news hrd h1 h63 hbytes;unfold Oper.wp execOp;simp only [ho,resolve,invoke,builtin,Sem.run_bind,Sem.run_pure,Result.andThen_ok,List.map_toArray,List.map_cons,List.map_nil,hs,hx,hr];exact hK _ _ (h v' w' h2 h3 h4 h5 h6)
end
theorem aC {w:World}{b:Nat}{t:TypeId}{x0:Value}(h:w.heap[b]?=some (.cells #[x0] t (0,0))) :
  w.cell? ⟨b,0,none⟩=some x0∧(∀j,w.frozen? ⟨b,j,none⟩=false):=by
 refine⟨?_,fun j=>?_⟩
 all_goals first|(rw [cell_of_row w b _ _ _ _ h];rfl)|simp [World.frozen?,h]
theorem dA {w:World}{b:Nat}{t:TypeId}{x0 x1:Value}(h:w.heap[b]?=some (.cells #[x0,x1] t (0,0))) :
  w.cell? ⟨b,0,none⟩=some x0∧w.cell? ⟨b,1,none⟩=some x1∧(∀j,w.frozen? ⟨b,j,none⟩=false):=by
 refine⟨?_,?_,fun j=>?_⟩
 all_goals first|(rw [cell_of_row w b _ _ _ _ h];rfl)|simp [World.frozen?,h]
theorem aQ {w:World}{b:Nat}{t:TypeId}{x0 x1 x2:Value}(h:w.heap[b]?=some (.cells #[x0,x1,x2] t (0,0))) :
  w.cell? ⟨b,0,none⟩=some x0∧w.cell? ⟨b,1,none⟩=some x1∧w.cell? ⟨b,2,none⟩=some x2∧(∀j,w.frozen? ⟨b,j,none⟩=false):=by
 refine⟨?_,?_,?_,fun j=>?_⟩
 all_goals first|(rw [cell_of_row w b _ _ _ _ h];rfl)|simp [World.frozen?,h]
theorem gV {w:World}{b:Nat}{t:TypeId}{x0 x1 x2 x3:Value}(h:w.heap[b]?=some (.cells #[x0,x1,x2,x3] t (0,0))) :
  w.cell? ⟨b,0,none⟩=some x0∧w.cell? ⟨b,1,none⟩=some x1∧w.cell? ⟨b,2,none⟩=some x2∧w.cell? ⟨b,3,none⟩=some x3∧(∀j,w.frozen? ⟨b,j,none⟩=false):=by
 refine⟨?_,?_,?_,?_,fun j=>?_⟩
 all_goals first|(rw [cell_of_row w b _ _ _ _ h];rfl)|simp [World.frozen?,h]
theorem pC {w:World}{b:Nat}{t:TypeId}{x0 x1 x2 x3 x4:Value}(h:w.heap[b]?=some (.cells #[x0,x1,x2,x3,x4] t (0,0))) :
  w.cell? ⟨b,0,none⟩=some x0∧w.cell? ⟨b,1,none⟩=some x1∧w.cell? ⟨b,2,none⟩=some x2∧w.cell? ⟨b,3,none⟩=some x3∧w.cell? ⟨b,4,none⟩=some x4∧(∀j,w.frozen? ⟨b,j,none⟩=false):=by
 refine⟨?_,?_,?_,?_,?_,fun j=>?_⟩
 all_goals first|(rw [cell_of_row w b _ _ _ _ h];rfl)|simp [World.frozen?,h]
def RowV (w:World)(g:Nat)(e:TypeId)(z:Nat)(xs:List Value):Prop:=∃cur,w.heap[g]?=some (.cells cur e (0,0))∧cur.size=z∧cur.toList.take xs.length=xs
theorem RowV.cell {w:World}{g:Nat}{e:TypeId}{z:Nat}{xs:List Value}(h:RowV w g e z xs){j:Nat}{u:Value}(hu:xs[j]?=some u):w.cell? ⟨g,j,none⟩=some u:=by
 obtain⟨cur,h1,_,h2⟩:=h;rw [cell_of_row w g j cur e (0,0) h1];rw [←h2,List.getElem?_take]at hu;split at hu
 ·simpa using hu
 ·cases hu
theorem RowV.frozen {w:World}{g:Nat}{e:TypeId}{z:Nat}{xs:List Value}(h:RowV w g e z xs)(j:Nat):w.frozen? ⟨g,j,none⟩=false:=by
 obtain⟨cur,h1,_⟩:=h;simp [World.frozen?,h1]
theorem RowV.set {w:World}{g:Nat}{e:TypeId}{z:Nat}{xs:List Value}(h:RowV w g e z xs)(j:Nat)(u:Value):RowV (w.setCell ⟨g,j,none⟩ u) g e z (xs.set j u):=by
 obtain⟨cur,h1,h2,h3⟩:=h;have hlt:=aw h1;have hv:w.heap[g] = .cells cur e (0,0):=(Array.getElem?_eq_some_iff.1 h1).2;refine⟨cur.setIfInBounds j u,?_,by simpa using h2,?_⟩
 ·simp only [World.setCell,Array.getElem?_modify,if_true,h1,Option.map_some]
  simp
 ·rw [Array.toList_setIfInBounds,FV,List.take_set,h3]
theorem RowV.frame {w w':World}{g:Nat}{e:TypeId}{z:Nat}{xs:List Value}(h:RowV w g e z xs)(hb:w'.heap[g]?=w.heap[g]?):RowV w' g e z xs:=by
 obtain⟨cur,h1,h2⟩:=h;exact⟨cur,hb.trans h1,h2⟩
theorem RowV.drew {w:World}{g:Nat}{e:TypeId}{z:Nat}{xs:List Value}(h:RowV w g e z xs):RowV w.drew g e z xs:=h
theorem Own.drew {w:World}{e:TypeId}{size:Nat}{v:Value}{n:Nat}{xs:List Value}(h:Own w e size v n xs):Own w.drew e size v n xs:=h
theorem Rd.drew {w:World}{size:Nat}{v:Value}{n:Nat}{xs:List Value}(h:Rd w size v n xs):Rd w.drew size v n xs:=h
theorem Own.row {w:World}{e:TypeId}{size g n cap:Nat}{xs:List Value}(h:Own w e size (.slice (some ⟨g,0,none⟩) n cap) n xs):∃z,cap*size≤z∧RowV w g e z xs:=by
 have hl:=h.1;rcases h.2.2 with ⟨h1,_⟩|⟨g',cap',cur,hv,hh,h1,h2,h3,h4⟩
 ·cases h1
 ·cases hv
  exact⟨cur.size,h3,cur,hh,rfl,by rw [hl,h4]⟩
theorem RowV.own {w:World}{e:TypeId}{size g n cap z:Nat}{xs:List Value}(h:RowV w g e z xs)(hl:xs.length=n*size)(h1:∀u∈xs,u.oneCell'=true)(hn:n≤cap)(hc:cap≤maxLen)(hz:cap*size≤z):Own w e size (.slice (some ⟨g,0,none⟩) n cap) n xs:=by
 obtain⟨cur,h2,h3,h4⟩:=h;exact⟨hl,h1,.inr ⟨g,cap,cur,rfl,h2,hn,hc,by omega,by rw [←hl];exact h4⟩⟩
theorem ed {w:World}{b j:Nat}{cs:Array Value}{t:TypeId}{fr:Nat×Nat}(h:w.heap[b]?=some (.cells cs t fr))(v:Value):(w.setCell ⟨b,j,none⟩ v).heap[b]?=some (.cells (cs.setIfInBounds j v) t fr):=by
 have hlt:=aw h;have hv:w.heap[b] = .cells cs t fr:=(Array.getElem?_eq_some_iff.1 h).2;simp only [World.setCell,Array.getElem?_modify,if_true,h,Option.map_some];simp
theorem de {w:World}{b:Nat}{o x:Obj}(h:w.heap[b]?=some x):(w.alloc o).heap[b]?=some x:=by rw [Below.heap_alloc _ _ _ (aw h)];exact h
theorem ak (w:World)(o:Obj):(w.alloc o).heap[w.heap.size]?=some o:=by show(w.heap.push o)[w.heap.size]?=_;simp
end Go.Proofs.YtdobimafhbfkhaaGreat
