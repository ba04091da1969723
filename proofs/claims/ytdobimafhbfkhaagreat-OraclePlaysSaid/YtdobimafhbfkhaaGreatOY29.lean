/- Whether a predicate holds of a row (pred.Holds), and what follows. -/
import Derived.Test.YtdobimafhbfkhaaGreatOY28
import Derived.Test.YtdobimafhbfkhaaGreatOY13
import Derived.OwnWalkIn
import Derived.Test.YtdobimafhbfkhaaGreatOY27
import Derived.Test.YtdobimafhbfkhaaGreatOY19
set_option maxHeartbeats 64000000
namespace Go.Proofs.YtdobimafhbfkhaaGreat
open Go.ChangeShapes Go.WideShapes Go.ChangeAt Go.RowKit
set_option maxRecDepth 100000
set_option linter.unusedSimpArgs false
@[go_sem] theorem vt {P:Program}(w:World)(a:Addr)(f:Fn)(x y:Array Value)(m:Mode):(store a (.func f x y) m).run P w=stored P w a (.func f x y) m:=nm w a _ m rfl
def HoldsC (w:World)(rv:Value)(e:PredE)(p:Bool):Prop:=∀W,Kept (fun _=>False) w W→Calls Tryz.prog 62 #[.agg e.cells.toArray,rv] W fun r W'=>r = .returned (.bool p)∧Kept (fun _=>False) W W'
theorem HoldsC.kept {w w':World}{rv:Value}{e:PredE}{p:Bool}(h:HoldsC w rv e p)(k:Kept (fun _=>False) w w'):HoldsC w' rv e p:=fun W hW=>h W (k.trans hW (fun _ h=>h.elim))
theorem kG {w:World}{b:Nat}{rv:Value}{t:TypeId}{e:PredE}{p:Bool}(hb:w.heap[b]?=some (.cells #[rv] t (0,0)))(h:HoldsC w rv e p) :
  Calls Tryz.prog 86 #[.agg e.cells.toArray,.pointer (some ⟨b,0,none⟩)] w fun r w'=>r = .returned (.bool p)∧Kept (fun _=>False) w w':=by
 obtain⟨W1,hW1,hk1,hbx,hb1⟩:=jp hb e.cells.toArray tPr;have wM:=FH hW1;have wN:=FH hk1;have HL:=FH (dh (aj hbx));have HC:=FH (h W1 hk1);obtain⟨c0,_⟩:=aC hb1;clear hb hW1 hk1 hbx hb1 h;go_enter Tryz.func86,Tryz.ntmps86;go_upto_region 1 with fail
 rw [←wM.out];clear wM;generalize w.heap.size=bx at HL ⊢;go_wp2_with (first|(refine aV rfl _ _ rfl _ _ rfl _ HL.out ?_)|(go_at_call 62;refine HC.out.mono ?_;rintro e1 w1 ⟨rfl,hk2⟩;have wV:=FH (wN.out.trans hk2 (fun _ h=>h.elim));clear hk2 HC c0));go_ret;exact⟨rfl,wV.out⟩
theorem holds1F {w:World}{b:Nat}{rv:Value}{t:TypeId}{e:PredE}{p:Bool}(hb:w.heap[b]?=some (.cells #[rv] t (0,0)))(h:HoldsC w rv e p):PredF 86 #[.pointer (some ⟨b,0,none⟩)] w e.cells p :=
 ⟨enters_of Tryz.func86 (by kernel_rfl) rfl,fun W hW=>kG (aA hW hb) (h.kept hW)⟩
theorem holds2F {w:World}{b b5:Nat}{rv:Value}{t t5:TypeId}{e:PredE}{p:Bool}(hb:w.heap[b]?=some (.cells #[rv] t (0,0)))(hb5:w.heap[b5]?=some (.cells #[.func (.func 86) #[] #[.pointer (some ⟨b,0,none⟩)]] t5 (0,0)))(h:HoldsC w rv e p):PredF 89 #[.pointer (some ⟨b5,0,none⟩)] w e.cells (!p):=by
 refine⟨enters_of Tryz.func89 (by kernel_rfl) rfl,fun W hW=>?_⟩;obtain⟨W1,hW1,hk1,hbx,hb1⟩:=jp (aA hW hb) e.cells.toArray tPr;have hb51:=aA hk1 (aA hW hb5);have wM:=FH hW1;have wN:=FH hk1;have HL:=FH (dh (aj hbx));have HC:=FH (kG hb1 ((h.kept hW).kept hk1));obtain⟨c0,_⟩:=aC hb51;clear hb hb5 hW hW1 hk1 hbx hb1 hb51 h
 show Calls Tryz.prog 89 #[.agg e.cells.toArray,.pointer (some ⟨b5,0,none⟩)] W _;go_enter Tryz.func89,Tryz.ntmps89;go_upto_region 1 with fail
 rw [←wM.out];clear wM;generalize W.heap.size=bx at HL ⊢;go_wp2_with (first|(refine aV rfl _ _ rfl _ _ rfl _ HL.out ?_)|(go_at_call 86;refine HC.out.mono ?_;rintro e1 w1 ⟨rfl,hk2⟩;have wV:=FH (wN.out.trans hk2 (fun _ h=>h.elim));clear hk2 HC c0));go_ret;exact⟨rfl,wV.out⟩
theorem oM : ∀(p:PredT) (x:PredE) (w:World) (rv:Value) (r:List Val),x.p=p→PredsRd w (.slice x.la x.ln x.lc) x.subs→em w rv r →
  Calls Tryz.prog 62 #[.agg x.cells.toArray,rv] w fun e w'=>e = .returned (.bool (x.p.holds r))∧Kept (fun _=>False) w w':=by
 refine PredT.ind fun op col v w0 l ih x w rv r hx h1 h2=>?_;have hl:x.subs=l:=by unfold PredE.p at hx;cases hx;rfl
 obtain⟨ra,rn,rc,rfl⟩:∃a n c,rv = .slice a n c:=by obtain⟨_,_,a,c,h,_⟩:=h2;exact⟨a,_,c,h⟩
 obtain⟨W1,hW1,hk1,hb1,hb2,hb3⟩:=alloc3 w x.cells.toArray #[.slice ra rn rc] #[.func (.func 86) #[] #[.pointer (some ⟨w.heap.size+1,0,none⟩)]] tPr 26 144;obtain⟨es,he,hsub,hes⟩:∃es:List PredE,Rd W1 9 (.slice x.la x.ln x.lc) es.length (es.flatMap PredE.cells)∧x.subs=es.map PredE.p∧∀e∈es,HoldsC W1 (.slice ra rn rc) e (e.p.holds r):=by
  have k1:=h1.kept hk1;have hr1:=h2.kept hk1 (fun _ _ h=>h);generalize hxs:x.subs=xs at k1 hl;cases k1 with
  | mk _ es he hes =>
   refine⟨es,he,rfl,fun e hee W hW=>?_⟩;exact ih e.p (by rw [←hl];exact List.mem_map.2 ⟨e,hee,rfl⟩) e W _ r rfl ((hes e hee).kept hW) (hr1.kept hW (fun _ _ h=>h))
 have HP:=FH (show x.p.holds r=_ from PredT.holds_eq x.op x.col x.v x.w x.subs r);rw [hsub]at HP;have wM:=FH hW1;have wN:=FH hk1;have wL:=FH hb1;have wX:=FH hb2;have xL:=FH hb3;have HE:=FH he;have yX:=FH hes;have Ct:=FH (h2.kept hk1 (fun _ _ h=>h));have hln:x.ln=es.length:=by obtain⟨_,_,_,_,h,_⟩:=he;exact(Value.slice.inj h).2.1
 have hle:es.length≤9223372036854775807:=by have:=he.2.1;unfold maxLen at this;omega
 clear h1 h2 hW1 hk1 hb1 hb2 hb3 hx hl ih he hes hsub;by_cases o1:x.op=1
 ·have HR:=FH (show x.p.holds r=true by rw [HP.out,if_pos o1])
  have q1:(x.op == 1)=true:=by simpa using o1
  clear o1 HP;go_enter Tryz.func62,Tryz.ntmps62;go_upto_region 2 with fail
  rw [←wM.out];clear wM;generalize w.heap.size+1+1=b3 at xL ⊢;generalize w.heap.size+1=b2 at wX xL ⊢;generalize w.heap.size=b1 at wL ⊢;obtain⟨x0,x1,x2,x3,x4,x5,x6,x7,x8⟩:=cu wL.out;obtain⟨y0,_⟩:=aC wX.out;obtain⟨z0,_⟩:=aC xL.out;go_wp2_with fail;go_ret;exact⟨by rw [HR.out];rfl,wN.out⟩
 by_cases o2:3≤x.op∧x.op≤9
 ·have HR:=FH (show x.p.holds r=dR x.op x.col x.v x.w r by rw [HP.out,if_neg o1,if_pos o2])
  have xi:=FH (vw x Ct.out);have q1:(x.op == 1)=false:=by simpa using o1
  clear HP;rw [HR.out];have h7:x.op=3∨x.op=4∨x.op=5∨x.op=6∨x.op=7∨x.op=8∨x.op=9:=by omega
  clear o1 o2 HR;generalize dR x.op x.col x.v x.w r=rr at xi ⊢;go_enter Tryz.func62,Tryz.ntmps62;go_upto_region 2 with fail
  rw [←wM.out];clear wM;generalize w.heap.size+1+1=b3 at xL ⊢;generalize w.heap.size+1=b2 at wX xL ⊢;generalize w.heap.size=b1 at wL ⊢;obtain⟨x0,x1,x2,x3,x4,x5,x6,x7,x8⟩:=cu wL.out;obtain⟨y0,_⟩:=aC wX.out;obtain⟨z0,_⟩:=aC xL.out;have HL:=FH (dh (aj wL.out));rcases h7 with h|h|h|h|h|h|h
  all_goals
   have zb:=FH h;rw [h]at x0;clear h q1;go_wp2_with (first|(refine aV rfl _ _ rfl _ _ rfl _ HL.out ?_)|(go_at_call 87;refine xi.out.mono ?_;rintro e1 w1 ⟨rfl,hk2⟩;have wV:=FH (wN.out.trans hk2 (fun _ h=>h.elim));clear hk2 xi HL x0 x1 x2 x3 x4 x5 x6 x7 x8 y0 z0));go_ret;exact⟨rfl,wV.out⟩
 by_cases o3:x.op=10
 ·rcases es with _|⟨e,es⟩
  ·have HR:=FH (show x.p.holds r=true by rw [HP.out,if_neg o1,if_neg o2,if_pos o3];rfl)
   rw [List.length_nil]at hln;rw [HR.out];have yg:=FH hln;clear HP HR hln;go_enter Tryz.func62,Tryz.ntmps62;go_upto_region 2 with fail
   rw [←wM.out];clear wM;generalize w.heap.size+1+1=b3 at xL ⊢;generalize w.heap.size+1=b2 at wX xL ⊢;generalize w.heap.size=b1 at wL ⊢;obtain⟨x0,x1,x2,x3,x4,x5,x6,x7,x8⟩:=cu wL.out;obtain⟨y0,_⟩:=aC wX.out;obtain⟨z0,_⟩:=aC xL.out;rw [yg.out]at x8;rw [o3]at x0;clear o1 o2 o3;go_upto_region 14 with fail
   refine aH [rq 0 10,rq 1 10,rq 2 10,rq 3 10,rq 4 10,rq 5 10,rq 6 10,rq 7 10,rq 8 10,rq 9 10,(10,true,0),rq 11 999,rq 12 999,rq 13 999] ?_;iterate 10 (first|(refine ax rfl rfl ?_;simp only [Act.put,FI,FJ,FK,FL,FM,FN])|((first|refine ae rfl rfl (fun K hK=>?_)|refine ar rfl rfl fun K hK=>?_);go_simp;apply hK;clear hK K))
   refine af rfl ?_;refine bU rfl ?_;simp only [Act.put,FI,FJ,FK];refine wpList_nil ?_;apply And.intro
   ·go_simp
   iterate 3 (first|(refine ax rfl rfl ?_;simp only [Act.put,FI,FJ,FK,FL,FM,FN])|((first|refine ae rfl rfl (fun K hK=>?_)|refine ar rfl rfl fun K hK=>?_);go_simp;apply hK;clear hK K))
   refine ag ?_;go_wp2_with fail;go_ret;exact⟨rfl,wN.out.drew⟩
  ·have HR:=FH (show x.p.holds r = !(e.p.holds r) by rw [HP.out,if_neg o1,if_neg o2,if_pos o3];rfl)
   have hl0:(((e::es).length:Int) == 0)=false:=by simp;omega
   have hl1:(0:Int)<((e::es).length:Int):=by simp only [List.length_cons];omega
   have hl2:0<(e::es).length:=by simp
   have Fa:=FH (yX.out e (Gc ..));obtain⟨g,oo,hga,hrng⟩:=bi PredE.len (by rw [hln]at HE;exact HE.out) (show(e::es)[0]?=some e from rfl) rfl;have wU:=FH (dh (w:=W1.drew) (by simpa using hrng));rw [HR.out];have yg:=FH hln;have Fb:=FH hga;clear HP HR hln hga hrng HE yX;generalize (e::es).length=n at *;generalize e.p.holds r=rr at *;go_enter Tryz.func62,Tryz.ntmps62;go_upto_region 2 with fail
   rw [←wM.out];clear wM;generalize w.heap.size+1+1=b3 at xL ⊢;generalize w.heap.size+1=b2 at wX xL ⊢;generalize w.heap.size=b1 at wL ⊢;obtain⟨x0,x1,x2,x3,x4,x5,x6,x7,x8⟩:=cu wL.out;obtain⟨y0,_⟩:=aC wX.out;obtain⟨z0,_⟩:=aC xL.out;rw [yg.out,Fb.out]at x8;rw [o3]at x0;clear o1 o2 o3;have HH:=FH (kG (aA ((Kept.refl (fun _=>False) _).drew) wX.out) (Fa.out.kept ((Kept.refl _ _).drew)));go_upto_region 14 with fail
   refine aH [rq 0 10,rq 1 10,rq 2 10,rq 3 10,rq 4 10,rq 5 10,rq 6 10,rq 7 10,rq 8 10,rq 9 10,(10,true,0),rq 11 999,rq 12 999,rq 13 999] ?_;iterate 10 (first|(refine ax rfl rfl ?_;simp only [Act.put,FI,FJ,FK,FL,FM,FN])|((first|refine ae rfl rfl (fun K hK=>?_)|refine ar rfl rfl fun K hK=>?_);(first|((refine bF _ _ rfl _ _ rfl _ wU.out ?_);go_simp)|go_simp);apply hK;clear hK K))
   refine af rfl ?_;refine al rfl fun K hK=>?_;go_simp;refine HH.out.mono ?_;rintro e2 w2 ⟨rfl,hk2⟩;have wV:=FH (wN.out.drew.trans hk2 (fun _ h=>h.elim));clear hk2 HH wU x0 x1 x2 x3 x4 x5 x6 x7 x8 y0 z0;refine hK _ _ ?_;clear hK K;refine wpList_nil ?_;apply And.intro
   ·go_simp
   iterate 3 (first|(refine ax rfl rfl ?_;simp only [Act.put,FI,FJ,FK,FL,FM,FN])|((first|refine ae rfl rfl (fun K hK=>?_)|refine ar rfl rfl fun K hK=>?_);(first|((refine bF _ _ rfl _ _ rfl _ wU.out ?_);go_simp)|go_simp);apply hK;clear hK K))
   refine ag ?_;go_wp2_with fail;go_ret;exact⟨rfl,wV.out⟩
 by_cases o4:x.op=11
 ·have HR:=FH (show x.p.holds r = !(es.any (fun e=>!(e.p.holds r))) by rw [HP.out,if_neg o1,if_neg o2,if_neg o3,if_pos o4,List.all_map,List.any_eq_not_all_not,Bool.not_not];congr 1;funext e;simp)
  have BB:=FH (iw (fun e=>!(e.p.holds r)) HE.out (fun e he=>holds2F wX.out xL.out (yX.out e he)));rw [HR.out];clear HP HR HE yX hln;generalize es.any (fun e=>!(e.p.holds r))=rr at *;go_enter Tryz.func62,Tryz.ntmps62;go_upto_region 2 with fail
  rw [←wM.out];clear wM;generalize w.heap.size+1+1=b3 at xL BB ⊢;generalize w.heap.size+1=b2 at wX xL ⊢;generalize w.heap.size=b1 at wL ⊢;obtain⟨x0,x1,x2,x3,x4,x5,x6,x7,x8⟩:=cu wL.out;obtain⟨y0,_⟩:=aC wX.out;obtain⟨z0,_⟩:=aC xL.out;rw [o4]at x0;clear o1 o2 o3 o4;go_wp2_with (go_at_call 88;refine BB.out.mono ?_;rintro e1 w1 ⟨rfl,hk2⟩;have wV:=FH (wN.out.trans hk2 (fun _ h=>h.elim));clear hk2 BB x0 x1 x2 x3 x4 x5 x6 x7 x8 y0 z0);go_ret;exact⟨rfl,wV.out⟩
 by_cases o5:x.op=12
 ·have HR:=FH (show x.p.holds r=es.any (fun e=>e.p.holds r) by rw [HP.out,if_neg o1,if_neg o2,if_neg o3,if_neg o4,if_pos o5,List.any_map];rfl)
  have BB:=FH (iw (fun e=>e.p.holds r) HE.out (fun e he=>holds1F wX.out (yX.out e he)));rw [HR.out];clear HP HR HE yX hln;generalize es.any (fun e=>e.p.holds r)=rr at *;go_enter Tryz.func62,Tryz.ntmps62;go_upto_region 2 with fail
  rw [←wM.out];clear wM;generalize w.heap.size+1+1=b3 at xL BB ⊢;generalize w.heap.size+1=b2 at BB wX xL ⊢;generalize w.heap.size=b1 at wL ⊢;obtain⟨x0,x1,x2,x3,x4,x5,x6,x7,x8⟩:=cu wL.out;obtain⟨y0,_⟩:=aC wX.out;obtain⟨z0,_⟩:=aC xL.out;rw [o5]at x0;clear o1 o2 o3 o4 o5;go_wp2_with (go_at_call 88;refine BB.out.mono ?_;rintro e1 w1 ⟨rfl,hk2⟩;have wV:=FH (wN.out.trans hk2 (fun _ h=>h.elim));clear hk2 BB x0 x1 x2 x3 x4 x5 x6 x7 x8 y0 z0);go_ret;exact⟨rfl,wV.out⟩
 have HR:=FH (show x.p.holds r=false by rw [HP.out,if_neg o1,if_neg o2,if_neg o3,if_neg o4,if_neg o5]);have q1:(x.op == 1)=false:=by simpa using o1
 have q3:(x.op == 3)=false:=by simp;omega
 have q4:(x.op == 4)=false:=by simp;omega
 have q5:(x.op == 5)=false:=by simp;omega
 have q6:(x.op == 6)=false:=by simp;omega
 have q7:(x.op == 7)=false:=by simp;omega
 have q8:(x.op == 8)=false:=by simp;omega
 have q9:(x.op == 9)=false:=by simp;omega
 have q10:(x.op == 10)=false:=by simpa using o3
 have q11:(x.op == 11)=false:=by simpa using o4
 have q12:(x.op == 12)=false:=by simpa using o5
 rw [HR.out];clear HP HR HE yX hln o1 o2 o3 o4 o5;go_enter Tryz.func62,Tryz.ntmps62;go_upto_region 2 with fail
 rw [←wM.out];clear wM;generalize w.heap.size+1+1=b3 at xL ⊢;generalize w.heap.size+1=b2 at wX xL ⊢;generalize w.heap.size=b1 at wL ⊢;obtain⟨x0,x1,x2,x3,x4,x5,x6,x7,x8⟩:=cu wL.out;obtain⟨y0,_⟩:=aC wX.out;obtain⟨z0,_⟩:=aC xL.out;go_wp2_with fail;go_ret;exact⟨rfl,wN.out⟩
end Go.Proofs.YtdobimafhbfkhaaGreat
namespace Go.Proofs.YtdobimafhbfkhaaGreat
open Go.ChangeShapes Go.WideShapes Go.ChangeAt Go.RowKit
section
def iS (ops:Array Oper):Bool:=ops.all fun o=>match o.op with
 | .defer _=>false
 | _=>true
theorem mn {ops:Array Oper}(h:iS ops=true){i:Nat}{o:Oper}(ho:ops[i]?=some o):∀c,o.op≠.defer c:=by
 intro c hc;obtain⟨hlt,rfl⟩:=Array.getElem?_eq_some_iff.1 ho;have:=(Array.all_eq_true.1 h) i hlt;rw [hc]at this;cases this
variable {lr n : Nat} {P : Program} {ops : Array Oper} {Q : Exit → Act → World → Prop}
def eZ (lr n:Nat)(P:Program)(ops:Array Oper)(Q:Exit→Act→World→Prop):List (Nat×Bool×Nat)→List Pend→Act→World→Prop
 | [],_,a,w=>Q .normal a w
 | (i,e,k)::rest,pend,a,w=>∃o,ops[i]?=some o ∧
  match e with
  | false=>if Region.wanted o (yielded ops a.tmps)then o.still P a w (fun b=>eZ lr n P ops Q rest (⟨o,a,b,k⟩::pend) b w)else eZ lr n P ops Q rest (⟨o,a,a,k⟩::pend) (a.put o.dst undef) w
  | true=>wpListIn (Fence.wide.inRound lr) n P ops (kU Q fun b w'=>ec P ops i pend w'∧eZ lr n P ops Q rest (bq i pend) b w') [o] a w
theorem re {pend:List Pend}{a:Act}{w:World}(h:Q .normal a w):eZ lr n P ops Q [] pend a w:=h
theorem gR {i k:Nat}{rest:List (Nat×Bool×Nat)}{pend:List Pend}{a:Act}{w:World}{o:Oper}(ho:ops[i]?=some o)
  (h:wpListIn (Fence.wide.inRound lr) n P ops (kU Q fun b w'=>ec P ops i pend w'∧eZ lr n P ops Q rest (bq i pend) b w') [o] a w):eZ lr n P ops Q ((i,true,k)::rest) pend a w :=
 ⟨o,ho,h⟩
theorem qy {i k:Nat}{rest:List (Nat×Bool×Nat)}{pend:List Pend}{a:Act}{w:World}{o:Oper}(ho:ops[i]?=some o)(hg:o.guard=none)
  (h:∀K:Act→Prop,(∀b,eZ lr n P ops Q rest (⟨o,a,b,k⟩::pend) b w→K b)→o.still P a w K):eZ lr n P ops Q ((i,false,k)::rest) pend a w:=by
 refine⟨o,ho,?_⟩;dsimp only;rw [if_pos (by simp [Region.wanted,hg])];exact h _ (fun _ h=>h)
def ei (lr n:Nat)(P:Program)(ops:Array Oper)(Q:Exit→Act→World→Prop)(S:Array Bool→World→Prop):Nat→Array Bool→Act→World→Prop
 | 0,listed,a,w=>Region.ready .any ops listed = []∧Q .normal a w
 | fuel+1,listed,a,w =>
  (Region.ready .any ops listed = []→Q .normal a w) ∧
  ∀i∈Region.ready .any ops listed,wpOpIn (Fence.wide.inRound lr) n P ops Q i (fun a' w'=>S (listed.setIfInBounds i true) w'∧ei lr n P ops Q S fuel (listed.setIfInBounds i true) a' w') a w
theorem ja {S:Array Bool→World→Prop}:∀(fuel:Nat) (listed:Array Bool) (a:Act) (w:World),ei lr n P ops Q S fuel listed a w→wpAnyIn (Fence.wide.inRound lr) n P .any ops Q fuel listed a w
 | 0,_,_,_,h=>h
 | fuel+1,_,_,_,h=>⟨h.1,fun i hi=>wpOpIn_mono (fun a' w' h'=>ja fuel _ a' w' h'.2) (h.2 i hi)⟩
theorem gS {S S':Array Bool→World→Prop}{G:Array Bool→Prop}(hG:∀l i,G l→G (l.setIfInBounds i true))(hS:∀l w,G l→S l w→S' l w) :
  ∀(fuel:Nat) (listed:Array Bool) (a:Act) (w:World),G listed→ei lr n P ops Q S fuel listed a w→ei lr n P ops Q S' fuel listed a w
 | 0,_,_,_,_,h=>h
 | fuel+1,listed,_,_,hl,h=>⟨h.1,fun i hi=>wpOpIn_mono (fun a' w' h'=>⟨hS _ _ (hG listed i hl) h'.1,gS hG hS fuel _ a' w' (hG listed i hl) h'.2⟩) (h.2 i hi)⟩
theorem Oper.wpRd_of_still {o:Oper}(hnd:∀c,o.op≠.defer c){a:Act}{w:World}{K:Act→Prop}{K':Act→World→Prop}{Q':Exit→Act→World→Prop}(h:∀a,K a→K' a w)(hh:o.still P a w K):o.wpIn (Fence.wide.inRound lr) n P a w K' Q':=by
 unfold Oper.still at hh;unfold Oper.wpIn;refine⟨fun _ _=>trivial,?_⟩;rw [Oper.semAt_plain _ _ _ hnd];generalize (execOp a.eval o).run P w=r at *;cases r with
 | ok x w' =>
  cases x<;>simp only [Oper.stillUpon]at hh<;>simp only [Oper.uponIn]
  case enter f args =>
   obtain⟨rfl,v,hc,hn⟩:=hh;exact⟨fun hd=>(by cases hd),callsIn_wide.2 (hc.mono fun e w'' ⟨he,hw⟩=>by subst he;subst hw;exact h _ hn)⟩
  all_goals (obtain⟨rfl,h2⟩:=hh;exact h _ h2)
 | halt x w'=>simp only [Oper.stillUpon]at hh
theorem lT (hnd:iS ops=true){i:Nat}{a:Act}{w:World}{K:Act→Prop}{K':Act→World→Prop}{Q':Exit→Act→World→Prop}(h:∀a,K a→K' a w)(hh:stOp P ops w i K a):wpOpIn (Fence.wide.inRound lr) n P ops Q' i K' a w:=by
 unfold stOp at hh;unfold wpOpIn;split
 ·rename_i ho;simp only [ho]at hh;exact h _ hh
 ·rename_i o ho
  simp only [ho]at hh;split
  ·rename_i hw;simp only [hw,if_true]at hh;exact Oper.wpRd_of_still (mn hnd ho) h hh
  ·rename_i hw;simp only [hw]at hh;exact⟨fun _ _=>trivial,h _ hh⟩
theorem qK (hnd:iS ops=true){j:Nat}{oi oj:Oper}{v:Value}{a0:Act}(hj:ops[j]?=some oj)(hap:oi.apart ops oj=true)
  (hsi:∀cs b,oi.op≠.select cs b) (hsj:∀cs b,oj.op≠.select cs b)
  (hQ:∀c a w,Q (.panic c) (a.put oi.dst v) w→Q (.panic c) a w) {K:Act→World→Prop} {a:Act} {w:World}
  (hy:AsAt ops oi a0 a) (h:wpOpIn (Fence.wide.inRound lr) n P ops Q j K (a.put oi.dst v) w) :
  wpOpIn (Fence.wide.inRound lr) n P ops Q j (fun a' w'=>AsAt ops oi a0 a'∧K (a'.put oi.dst v) w') a w:=by
 obtain⟨h1,h2,h3⟩:=Oper.apart_spec hap;have keep:∀(a:Act),AsAt ops oi a0 a→∀u,AsAt ops oi a0 (a.put oj.dst u):=fun a hy u=>hy.put hsi oj.dst u h3;have keepD:∀d,AsAt ops oi a0 { a with defers:=d::a.defers }:=fun d=>⟨hy.1,hy.2.1,hy.2.2⟩;have hdf:=mn hnd hj;unfold wpOpIn at *;simp only [hj]at *;rw [wanted_put oj a oi.dst v h1]at h;split
 ·rename_i hw
  simp only [hw,if_true]at h;unfold Oper.wpIn at *;refine⟨fun _ _=>trivial,?_⟩;have h:=h.2;rw [Oper.semAt_plain _ _ _ hdf,execOp_put oj hsj a oi.dst v h1]at h;rw [Oper.semAt_plain _ _ _ hdf];generalize (execOp a.eval oj).run P w=r at *;cases r with
  | ok x w' =>
   cases x<;>simp only [Oper.uponIn]at h ⊢
   case value u=>exact⟨keep a hy u,by rw [←Act.put_comm a v u h2];exact h⟩
   case skip=>exact⟨keep a hy _,by rw [←Act.put_comm a v undef h2];exact h⟩
   case defer d =>
    refine⟨keep _ (keepD d) _,?_⟩;rw [←Act.put_comm _ v undef h2,←Act.put_defers];exact h
   case enter f args =>
    refine⟨h.1,CallsIn.mono h.2 fun e w'' he=>?_⟩;cases e with
    | returned u=>exact⟨keep a hy u,by rw [←Act.put_comm a v u h2];exact he⟩
    | panicked c=>exact hQ _ _ _ he
    | outgrown=>exact he
   case row row args=>exact⟨h.1,RowsIn.mono h.2 fun u w'' he=>⟨keep a hy u,by rw [←Act.put_comm a v u h2];exact he⟩⟩
   case round l f tmps assign body =>
    refine⟨h.1,RoundIn.mono h.2 fun e w'' he=>?_⟩;cases e with
    | returned u=>exact⟨keep a hy u,by rw [←Act.put_comm a v u h2];exact he⟩
    | panicked c=>exact hQ _ _ _ he
    | outgrown=>exact he
  | halt x w' =>
   cases x<;>simp only [Oper.uponIn]at h ⊢
   case panic u=>exact hQ _ _ _ h
 ·rename_i hw
  simp only [hw]at h;exact⟨fun _ _=>trivial,keep a hy _,by rw [←Act.put_comm a v undef h2];exact h.2⟩
theorem take_ER (hnd:iS ops=true){i k:Nat}{oi:Oper}{v:Value}{a0 b0:Act}{pend:List Pend}(hi:ops[i]?=some oi)(hsel:∀(j:Nat) (o:Oper) cs b,ops[j]?=some o→o.op≠.select cs b)
  (hb0:Region.wanted oi (yielded ops a0.tmps)=true→b0=a0.put oi.dst v) (hv:Region.wanted oi (yielded ops a0.tmps)=false→v=undef)
  (hk:k≠i) (hpk:∀x∈pend,x.k≠i) (hw:k<ops.size→∃n,gb ops n k i=true)
  (hQ:∀c a w,Q (.panic c) (a.put oi.dst v) w→Q (.panic c) a w) :
  ∀(fuel:Nat) (listed:Array Bool) (a:Act) (w:World),listed.size=ops.size→ClosedL ops listed →
   (∀j oj,ops[j]?=some oj→j≠i→listed.getD j true=false→(∀e∈oj.after,Region.binds .any e=true→e.on≠i)→oi.apart ops oj=true) →
   i∈Region.ready .any ops listed→AsAt ops oi a0 a→(∃v',YieldsAt P ops w oi v' a∧a0.put oi.dst v'=a0.put oi.dst v)→SP P ops pend listed w →
   ei lr n P ops Q (SP P ops (⟨oi,a0,b0,k⟩::pend)) fuel (listed.setIfInBounds i true) (a.put oi.dst v) w→ei lr n P ops Q (SP P ops pend) (fuel+1) listed a w:=by
 intro fuel;have fin:∀ {f:Nat} {listed:Array Bool} {a:Act} {w:World},AsAt ops oi a0 a→(∃v',YieldsAt P ops w oi v' a∧a0.put oi.dst v'=a0.put oi.dst v)→SP P ops pend listed w →
   ei lr n P ops Q (SP P ops (⟨oi,a0,b0,k⟩::pend)) f (listed.setIfInBounds i true) (a.put oi.dst v) w →
   wpOpIn (Fence.wide.inRound lr) n P ops Q i (fun a' w'=>SP P ops pend (listed.setIfInBounds i true) w'∧ei lr n P ops Q (SP P ops pend) f (listed.setIfInBounds i true) a' w') a w:=by
  intro f listed a w ha ⟨v',hy,he⟩ hS H;refine lT hnd (K:=fun a'=>a'=a.put oi.dst v) (fun a' ha'=>?_) (hy.stOp hi (mG ha.2.2 he));subst ha';refine⟨fun x hx hl=>hS x hx ?_,gS (G:=fun _=>True) (fun _ _ _=>trivial) (fun l w _ h x hx=>h x (F4 _ hx)) f _ _ _ trivial H⟩;rw [getD_set_ne false (Ne.symm (hpk x hx))]at hl;exact hl
 induction fuel with
 | zero =>
  intro listed a w hsz hc _ hr ha hy hS H;refine⟨fun h=>(by rw [h]at hr;cases hr),fun j hj=>?_⟩;by_cases hji:j=i
  ·subst hji;exact fin ha hy hS H
  ·have:=ready_mono hj hji
   rw [H.1]at this;cases this
 | succ fuel ih =>
  intro listed a w hsz hc hfree hr ha hy hS H;refine⟨fun h=>(by rw [h]at hr;cases hr),fun j hj=>?_⟩;by_cases hji:j=i
  ·subst hji;exact fin ha hy hS H
  ·have h1:=H.2 j (ready_mono hj hji)
   obtain⟨hjun,oj,hoj,hall⟩:=mem_ready.1 hj;have hiun:=getD_both (mem_ready.1 hr).1;have hnot:∀e∈oj.after,Region.binds .any e=true→e.on≠i:=fun e he hb heq=>by
    have h1:=hall e he hb;rw [heq,hiun]at h1;cases h1
   have h2:=qK hnd hoj (hfree j oj hoj hji hjun hnot) (fun cs b=>hsel i oi cs b hi) (fun cs b=>hsel j oj cs b hoj) hQ ha h1;have hfree':∀k ok,ops[k]?=some ok→k≠i→(listed.setIfInBounds j true).getD k true=false →
     (∀e∈ok.after,Region.binds .any e=true→e.on≠i)→oi.apart ops ok=true:=fun k ok hk hki hun hno=>by
    refine hfree k ok hk hki ?_ hno;by_cases hjk:j=k
    ·subst hjk;exact hjun
    ·rw [getD_set_ne true hjk]at hun;exact hun
   refine wpOpIn_mono (fun a' w' h3=>?_) h2;obtain⟨ha',hS',h4⟩:=h3;have hc':=hc.set hj;have hkun:∀l:Array Bool,ClosedL ops l→l.size=ops.size→l.getD i false=false→l.getD k false=false:=by
    intro l hcl hls hil;by_cases hks:k<ops.size
    ·obtain⟨n,hn⟩:=hw hks
     cases hkl:l.getD k false with
     | false=>rfl
     | true=>rw [fl hcl n k i hn hkl]at hil;cases hil
    ·simp [Array.getElem?_eq_none (show l.size≤k by omega)]
   have hij:(listed.setIfInBounds j true).getD i false=false:=by rw [getD_set_ne false hji];exact hiun
   have hkj:(listed.setIfInBounds j true).getD k false=false:=hkun _ hc' (by simpa using hsz) hij;have hSP:SP P ops pend (listed.setIfInBounds j true) w':=fun x hx hl=>by
    refine hS' x (F4 _ hx) ?_;rw [Array.setIfInBounds_comm _ _ (Ne.symm hji),getD_set_ne false (Ne.symm (hpk x hx))];exact hl
   refine⟨hSP,ih (listed.setIfInBounds j true) a' w' (by simpa using hsz) hc' hfree' (ready_mono hr (Ne.symm hji)) ha' ?_ hSP ?_⟩
   ·have hok:=hS' ⟨oi,a0,b0,k⟩ (by simp) (by rw [Array.setIfInBounds_comm _ _ (Ne.symm hji),getD_set_ne false (Ne.symm hk)];exact hkj)
    unfold Pend.ok at hok;by_cases hwt:Region.wanted oi (yielded ops a0.tmps)=true
    ·simp only [hwt,if_true]at hok
     obtain⟨v',hv',he⟩:=yieldsAt_of_stOp hi (gQ (ops:=ops) (K:=fun b=>b=b0) hi (by rw [if_pos hwt];exact hok));exact⟨v',YieldsAt.asAt hv' ha',he.trans (hb0 hwt)⟩
    ·have hwf:Region.wanted oi (yielded ops a0.tmps)=false:=by simpa using hwt
     exact⟨v,.inr ⟨ha'.2.1.trans hwf,hv hwf⟩,rfl⟩
   ·rw [Array.setIfInBounds_comm _ _ hji]
    exact h4
theorem ju (hnd:iS ops=true)(hs:Region.noSelect ops=true){Qn:Exit→Act→World→Prop}(hnorm:∀a w,Q .normal a w→Qn .normal a w)(hout:∀a w,Q .outgrown a w→Qn .outgrown a w)
  (hQ:∀c (a:Act) (d:Option Tmp) (v:Value) (w:World),Qn (.panic c) (a.put d v) w→Qn (.panic c) a w) (effs:List Nat) :
  ∀(sched:List (Nat×Bool×Nat)) (pend:List Pend) (listed:Array Bool) (a:Act) (w:World),cX ops effs sched listed=true→listed.size=ops.size→ClosedL ops listed →
   (∀x∈pend,ops.size≤x.k∨effs.contains x.k=true)→SP P ops pend listed w→eZ lr n P ops Q sched pend a w→ei lr n P ops Qn (SP P ops pend) sched.length listed a w
 | [],pend,listed,a,w,hB,_,_,_,_,h=>⟨by simpa [cX]using hB,hnorm _ _ h⟩
 | (i,false,k)::rest,pend,listed,a,w,hB,hsz,hc,hp,hS,h=>by
  simp only [cX,Bool.and_eq_true,Bool.or_eq_true,decide_eq_true_eq,Bool.not_eq_true']at hB;obtain⟨⟨⟨⟨hr,hf⟩,hne⟩,hk⟩,hB'⟩:=hB;obtain⟨o,ho,h⟩:=h;dsimp only at h;have hr':i∈Region.ready .any ops listed:=by simpa using hr
  have hilt:i<ops.size:=(Array.getElem?_eq_some_iff.1 ho).1;have hki:k≠i:=fun e=>by subst e;rcases hk with hk|hk<;>first|omega|(rw [hne]at hk;cases hk.1)
  have hpk:∀x∈pend,x.k≠i:=fun x hx e=>by
   rcases hp x hx with h1|h1
   ·omega
   ·rw [e,hne]at h1;cases h1
  have hw:k<ops.size→∃n,gb ops n k i=true:=fun hlt=>by
   rcases hk with hk|hk
   ·omega
   ·exact⟨_,hk.2⟩
  have hc':=hc.set hr';have step:∀(b0:Act) (v:Value),(Region.wanted o (yielded ops a.tmps)=true→b0=a.put o.dst v)→(Region.wanted o (yielded ops a.tmps)=false→v=undef)→YieldsAt P ops w o v a →
    (⟨o,a,b0,k⟩:Pend).ok P ops w→eZ lr n P ops Q rest (⟨o,a,b0,k⟩::pend) (a.put o.dst v) w→ei lr n P ops Qn (SP P ops pend) ((i,false,k)::rest).length listed a w:=by
   intro b0 v hb0 hv hy hok hrest;refine take_ER hnd ho (Region.noSelect_spec hs) hb0 hv hki hpk hw (fun c a w=>hQ c a _ _ w) rest.length listed a w hsz hc (Region.free_spec ho hf) hr' ⟨rfl,rfl,rfl⟩ ⟨v,hy,rfl⟩ hS ?_;refine ju hnd hs hnorm hout hQ effs rest _ _ _ _ hB' (by simpa using hsz) hc' (fun x hx=>?_) (fun x hx hl=>?_) hrest
   ·rcases Gl.1 hx with rfl|hx
    ·rcases hk with hk|hk
     ·exact .inl hk
     ·exact .inr hk.1
    ·exact hp x hx
   ·rcases Gl.1 hx with rfl|hx
    ·exact hok
    ·refine hS x hx ?_
     rw [getD_set_ne false (Ne.symm (hpk x hx))]at hl;exact hl
  by_cases hwt:Region.wanted o (yielded ops a.tmps)=true
  ·rw [if_pos hwt]at h
   obtain⟨v,hy,hK⟩:=yieldsAt_of_stOp (ops:=ops) ho (gQ (ops:=ops) ho (by rw [if_pos hwt];exact h));refine step (a.put o.dst v) v (fun _=>rfl) (fun e=>by rw [hwt]at e;cases e) hy ?_ hK;have:=hy.stOp ho (K:=fun b=>b=a.put o.dst v) rfl;unfold stOp at this;simp only [ho]at this;unfold Pend.ok;rw [if_pos hwt]at this ⊢;exact this
  ·have hwf:Region.wanted o (yielded ops a.tmps)=false:=by simpa using hwt
   rw [if_neg hwt]at h;exact step a undef (fun e=>absurd e hwt) (fun _=>rfl) (.inr ⟨hwf,rfl⟩) (by unfold Pend.ok;rw [if_neg hwt];trivial) h
 | (i,true,k)::rest,pend,listed,a,w,hB,hsz,hc,hp,hS,h=>by
  simp only [cX,Bool.and_eq_true,decide_eq_true_eq]at hB;obtain⟨⟨hr,he⟩,hB'⟩:=hB;obtain⟨o,ho,h⟩:=h;dsimp only at h;refine⟨fun h0=>(by rw [h0]at hr;cases hr),fun j hj=>?_⟩;have hji:j=i:=by rw [hr]at hj;simpa using hj
  subst hji;have hc':=hc.set hj;have hsz':(listed.setIfInBounds j true).size=ops.size:=by simpa using hsz
  have hjlt:j<listed.size:=by rw [hsz];exact(Array.getElem?_eq_some_iff.1 ho).1
  have fin:∀b w',(ec P ops j pend w'∧eZ lr n P ops Q rest (bq j pend) b w') →
    SP P ops pend (listed.setIfInBounds j true) w'∧ei lr n P ops Qn (SP P ops pend) rest.length (listed.setIfInBounds j true) b w':=by
   intro b w' ⟨h1,h2⟩;have hlist:(listed.setIfInBounds j true).getD j false=true:=by simp [hjlt]
   have hSP:SP P ops pend (listed.setIfInBounds j true) w':=fun x hx hl=>by
    by_cases hxj:x.k=j
    ·rw [hxj,hlist]at hl;cases hl
    ·exact fB h1 hx hxj
   refine⟨hSP,?_⟩;have hk2:SP P ops (bq j pend) (listed.setIfInBounds j true) w':=fun x hx hl=>hSP x (cD hx).1 hl;have ih:=ju hnd hs hnorm hout hQ effs rest _ _ _ _ hB' hsz' hc' (fun x hx=>hp x (cD hx).1) hk2 h2;refine gS (G:=fun l=>l.getD j false=true) (fun l i hl=>getD_set_true hl) (fun l w hl hh x hx hxl=>?_) _ _ _ _ hlist ih;by_cases hxj:x.k=j
   ·rw [hxj,hl]at hxl;cases hxl
   ·exact hh x (dQ hx hxj) hxl
  unfold wpOpIn;simp only [ho];unfold wpListIn at h;split
  ·rename_i hwt
   rw [if_pos hwt]at h;unfold Oper.wpIn at *;refine⟨fun _ _=>trivial,?_⟩;have h:=h.2;generalize (o.semAt (Fence.wide.inRound lr).round a.eval).run P w=r at *;cases r with
   | ok x w' =>
    cases x<;>simp only [Oper.uponIn]at h ⊢
    case value u=>exact fin _ _ h
    case skip=>exact fin _ _ h
    case defer d=>exact fin _ _ h
    case enter f args =>
     refine⟨h.1,CallsIn.mono h.2 fun e w'' he=>?_⟩;cases e with
     | returned u=>exact fin _ _ he
     | panicked c=>exact(he:False).elim
     | outgrown=>obtain⟨b,w3,h3⟩:=he;exact⟨b,w3,hout _ _ h3⟩
    case row row args=>exact⟨h.1,RowsIn.mono h.2 fun u w'' he=>fin _ _ he⟩
    case round l f tmps assign body =>
     refine⟨h.1,RoundIn.mono h.2 fun e w'' he=>?_⟩;cases e with
     | returned u=>exact fin _ _ he
     | panicked c=>exact(he:False).elim
     | outgrown=>obtain⟨b,w3,h3⟩:=he;exact⟨b,w3,hout _ _ h3⟩
   | halt x w' =>
    cases x<;>simp only [Oper.uponIn]at h ⊢
    case panic u=>exact(h:False).elim
  ·rename_i hwt
   rw [if_neg hwt]at h;exact⟨fun _ _=>trivial,fin _ _ h.2⟩
theorem jU {id:Nat}{a:Act}{w:World}{l:List Oper}(sched:List (Nat×Bool×Nat))(hm:P.follows .mixedOrders=true)(hnd:iS l.toArray=true)
  (hB:(Region.noSelect l.toArray&&(decide (sched.length=l.length)&&cX l.toArray ((sched.filter (·.2.1)).map (·.1)) sched (Array.replicate l.toArray.size false)))=true)
  (h:eZ lr n P l.toArray Q sched [] a w.drew):(Code.region id l.toArray true).wpIn (Fence.wide.inRound lr) n P Q a w:=by
 simp only [Bool.and_eq_true,decide_eq_true_eq]at hB;obtain⟨hs,hlen,hB⟩:=hB;have key:ei lr n P l.toArray (NoPanic Q) (SP P l.toArray []) sched.length (Array.replicate l.toArray.size false) a w.drew:=by
  refine ju hnd (Q:=Q) (Qn:=NoPanic Q) hs (fun _ _ h=>h) (fun _ _ h=>h) (fun c a d v w h=>(h:False).elim) _ sched [] _ a _ hB (by simp) (fun j o hj hl=>?_) (fun x hx=>by cases hx) (fun x hx=>by cases hx) h;rw [getD_replicate_false]at hl;cases hl
 have hz:sched.length=l.toArray.size:=by simpa using hlen
 rw [hz]at key;exact Code.wpIn_mono NoPanic.imp (wpIn_region_any hm (ja _ _ _ _ key))
theorem qM {a:Act}{w:World}{rest:List Oper}{o:Oper}(hw:Region.wanted o (yielded ops a.tmps)=true)(h:∀K:Act→World→Prop,(∀b w',wpListIn (Fence.wide.inRound lr) n P ops Q rest b w'→K b w')→o.wpIn (Fence.wide.inRound lr) n P a w K Q):wpListIn (Fence.wide.inRound lr) n P ops Q (o::rest) a w:=by
 unfold wpListIn;rw [if_pos hw];exact h _ (fun _ _ h=>h)
end
end Go.Proofs.YtdobimafhbfkhaaGreat
namespace Go.Proofs.YtdobimafhbfkhaaGreat
open Go.ChangeShapes Go.WideShapes Go.ChangeAt Go.RowKit
set_option maxRecDepth 100000
set_option linter.unusedSimpArgs false
abbrev tRs : TypeId:=55
structure RowE where
 row:List Val
 ro:Option Addr
 rn:Nat
 rc:Nat
abbrev RowE.v (x:RowE):Value:=.slice x.ro x.rn x.rc
def oR (x:RowE):HP:=aD tV 3 x.v x.row.length (x.row.flatMap Val.cells)
section
variable {B w W W' wa : World} {D : PH} {l L X : List HP}
theorem Sat.over (hs:Sat B D wa L)(h:Sat wa (aB wa) W X):Sat B D W (X++L):=by
 obtain⟨h1,h2,a,b,c,d,e⟩:=h.holds;have p1:=hs.holds.mono d;have p2:=Holds.app (fun x=>(a x).symm) c b e p1;exact⟨h.os.trans hs.os,h.tape.trans hs.tape,h.output.trans hs.output,Gq hs.size h.size,p2.perm Ge⟩
theorem Sat.grown (hs:Sat wa (aB wa) W X)(hX:∀A∈X,ft A){row:Option Nat}(hg:W.grownBy W' row)(hr:∀r,row=some r→wa.heap.size≤r∧∃o:Obj,W.heap[r]?=some o∧o.isCells=false):Sat wa (aB wa) W' X:=by
 obtain⟨h1,h2,a,b,c,d,e⟩:=hs.holds;refine⟨hg.os.trans hs.os,hg.tape.trans hs.tape,hg.output.trans hs.output,Gq hs.size hg.size,aB wa,cellsOf h2,fun x=>?_,fun x o hx=>?_,fun x o hx=>?_,PH.le.refl _,Holds.inCells hX e⟩
 ·cases hx:aB wa x with
  | none=>exact .inl rfl
  | some o =>
   rcases a x with h|h
   ·rw [d x o hx]at h;cases h
   ·exact .inr (gM h)
 ·have hW:=b x o (d x o hx)
  exact(hg.block x (aw hW) (fun e2=>by have:=(hr x e2.symm).1;have:=aw hx;omega)).trans hW
 ·obtain⟨cs,t,fr,rfl⟩:=eR hx
  have hW:=c x _ (gU _ _ _ hx);refine(hg.block x (aw hW) (fun e2=>?_)).trans hW;obtain⟨_,o,ho,hc⟩:=hr x e2.symm;have hW2:W.heap[x]?=some (.cells cs t fr):=hW;rw [hW2]at ho;cases ho;cases hc
variable {bo : Nat} {tb e : TypeId} {size n n' : Nat} {v v' : Value} {xs xs' : List Value}
theorem nz (hs:Sat B D W (blk bo #[v] tb::aD e size v n xs::l)):BoxRow W bo tb e size v n xs:=by
 refine⟨hs.blk 0 rfl,hs.own 1 rfl,fun hb=>?_⟩;obtain⟨h1,h2,a,b,c,d,e0⟩:=hs.holds.swap;obtain⟨m1,m2,m3,m4,m5,m6,m7⟩:=Holds.swap e0;rcases a bo with g|g
 ·exact absurd (d.symm.trans g) (by simp)
 ·rcases m6.2.2 with ⟨q,_⟩|⟨g',cap,cur,q1,q2,_⟩
  ·rw [q]at hb;cases hb
  ·rw [q1]at hb
   have:g'=bo:=by simpa [Value.ownBlock]using hb
   subst this;have:=m4 _ _ q2;rw [g]at this;cases this
theorem rT {D1:PH}{l':List HP}(hs:Sat B D W (blk bo #[v] tb::aD e size v n xs::l))(hD:∀k o,D1 k=some o↔(¬OwB bo W k∧aB W k=some o))(hs':Sat W D1 W' (blk bo #[v'] tb::aD e size v' n' xs'::l')) :
  Sat B D W' (blk bo #[v'] tb::aD e size v' n' xs'::l):=by
 have hbr:=nz hs;obtain⟨hbr',-,-,hk,hback⟩:=hbr.back hD hs';have hg:Sat B D W (aY [blk bo #[v] tb,aD e size v n xs]::l):=Sat.togroup (L:=[blk bo #[v] tb,aD e size v n xs]) hs;have hin:∀h1:PH,aY [blk bo #[v] tb,aD e size v n xs] h1→∀k,OwB bo W k→h1 k≠none:=by
  intro h1 hA k hk hn;obtain⟨g1,g2,a,b,c,d,e0⟩:=hA;obtain⟨m1,m2,a2,b2,c2,d2,_⟩:=e0;rcases hbr.ow hk with rfl|hk
  ·have:=b _ _ d
   rw [hn]at this;cases this
  ·rcases d2.2.2 with ⟨q,_⟩|⟨g',cap,cur,q1,q2,_⟩
   ·rw [q]at hk;cases hk
   ·rw [q1]at hk
    have:g'=k:=by simpa [Value.ownBlock]using hk
    subst this;have:=c _ _ (b2 _ _ q2);rw [hn]at this;cases this
 refine Sat.ungroup (L:=[blk bo #[v'] tb,aD e size v' n' xs']) (hg.step (A':=aY [blk bo #[v'] tb,aD e size v' n' xs']) (fun h1 _ hA=>⟨⟨hk.os,hk.tape,hk.output,hk.size,fun k hlt hn=>hk.block k hlt (fun ho=>hn (hin h1 hA k ho))⟩,?_⟩));obtain⟨D2,hD2,hs2⟩:=hbr'.sat;obtain⟨p1,p2,a,b,c,d,e0⟩:=hs2.holds;refine⟨p2,c,e0,fun k o hko=>?_⟩;have hown:OwB bo W' k:=Classical.byContradiction fun hno=>by
  have h3:=d k o ((hD2 k o).2 ⟨hno,c k o hko⟩);rcases a k with h|h
  ·rw [h]at h3;cases h3
  ·rw [h]at hko;cases hko
 rcases hback k hown with h|h
 ·exact .inl (hin h1 hA k h)
 ·exact .inr h
theorem pd (x:RowE):ft (oR x):=eX _ _ _ _ _
theorem pD (pre:List RowE):ft (aY (pre.map oR)):=fV (fun A hA=>by obtain⟨x,_,rfl⟩:=List.mem_map.1 hA;exact pd x)
def BoxRows (wa:World)(bo:Nat)(es:List RowE)(W:World):Prop:=∃v,Sat wa (aB wa) W [blk bo #[v] tRs,aD tW 1 v es.length (es.map RowE.v),aY (es.map oR)]
theorem BoxRows.grown {es:List RowE}{row:Option Nat}(h:BoxRows wa bo es W)(hg:W.grownBy W' row)(hr:∀r,row=some r→wa.heap.size≤r∧∃o:Obj,W.heap[r]?=some o∧o.isCells=false):BoxRows wa bo es W':=by
 obtain⟨v,hs⟩:=h;refine⟨v,hs.grown (fun A hA=>?_) hg hr⟩;simp only [Gl,List.not_mem_nil,or_false]at hA;rcases hA with rfl|rfl|rfl
 ·exact kJ _ _ _
 ·exact eX _ _ _ _ _
 ·exact pD _
theorem nT : ∀ {es:List RowE} {D:PH} {l:List HP},Sat B D w (es.map oR++l)→∃D',PH.le D D'∧(∀x∈es,RdP D' 3 x.v x.row.length (x.row.flatMap Val.cells))∧Sat B D' w l
 | [],D,l,h=>⟨D,PH.le.refl _,fun _ hx=>(by cases hx),h⟩
 | x::es,D,l,h=>by
  obtain⟨D1,le1,hx,h1⟩:=Sat.own_give (show Sat B D w (aD tV 3 x.v x.row.length (x.row.flatMap Val.cells)::(es.map oR++l))from h);obtain⟨D2,le2,he,h2⟩:=nT h1;refine⟨D2,le1.trans le2,fun y hy=>?_,h2⟩;rcases Gl.1 hy with rfl|hy
  ·exact hx.mono le2
  ·exact he y hy
theorem uC {es:List RowE}{v:Value}(hf:∀x∈es,bG x.row)(hs:Sat B D w (aD tW 1 v es.length (es.map RowE.v)::aY (es.map oR)::l)):∃D',PH.le D D'∧RowsF D' v (es.map RowE.row)∧Sat B D' w l:=by
 obtain⟨D1,le1,hv,h1⟩:=hs.own_give;obtain⟨D2,le2,he,h2⟩:=nT (es:=es) (Sat.ungroup h1);refine⟨D2,le1.trans le2,⟨⟨es.map RowE.v,by simp,?_,?_,?_⟩,?_⟩,h2⟩
 ·intro u hu;obtain⟨x,_,rfl⟩:=List.mem_map.1 hu;rfl
 ·rw [FZ];exact hv.mono le2
 ·intro j u q hu hq
  rw [Gg]at hu hq;cases hj:es[j]? with
  | none=>rw [hj]at hu;cases hu
  | some x =>
   rw [hj]at hu hq;cases hu;cases hq;exact he x (FQ hj)
 ·intro q hq;obtain⟨x,hx,rfl⟩:=List.mem_map.1 hq;exact hf x hx
end
theorem Sat.fresh {w w':World}{e:TypeId}{size n:Nat}{v:Value}{xs:List Value}{l:List HP}(hs:Sat w (aB w) w' (aD e size v n xs::l)):∀g,v.ownBlock=some g→w.heap.size≤g:=by
 intro g hg;refine Classical.byContradiction fun hlt=>?_;obtain⟨h1,h2,a,b,c,d,e0⟩:=hs.holds;obtain⟨m1,m2,a2,b2,c2,d2,_⟩:=e0;have hgs:aB w g=some w.heap[g]:=Array.getElem?_eq_getElem (by omega);have h3:=d _ _ hgs;rcases d2.2.2 with ⟨q,_⟩|⟨g',cap,cur,q1,q2,_⟩
 ·rw [q]at hg;cases hg
 ·rw [q1]at hg
  have:g'=g:=by simpa [Value.ownBlock]using hg
  subst this;have h4:=b2 _ _ q2;rcases a g' with h|h
  ·rw [h]at h3;cases h3
  ·rw [h]at h4;cases h4
theorem rB {w:World}{v:Value}{r:List Val}(hrd:em w v r)(hb:r.length≤1000000) :
  Calls Tryz.prog 63 #[v] w fun e w'=>∃v',e = .returned v'∧Kept (fun _=>False) w w'∧Own w' tV 3 v' r.length (r.flatMap Val.cells)∧∀g,v'.ownBlock=some g→w.heap.size≤g :=
 (iU hrd hb (Sat.start w)).mono (fun _ _ ⟨v',h1,h2⟩=>⟨v',h1,h2.drop.end_ (PH.le.refl _),h2.own 0 rfl,h2.fresh⟩)
end Go.Proofs.YtdobimafhbfkhaaGreat
