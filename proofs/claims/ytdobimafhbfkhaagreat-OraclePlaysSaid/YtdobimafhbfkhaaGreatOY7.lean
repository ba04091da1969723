/- Function values that are asked of elements; places, and what follows. -/
import Derived.Test.YtdobimafhbfkhaaGreatOY3
import Derived.Test.YtdobimafhbfkhaaGreatOY5
import Derived.Test.YtdobimafhbfkhaaGreatOY6
import Derived.Shelf.Abstract
import Derived.Deep.Cut
import Derived.Deep.CutBlock
set_option maxHeartbeats 64000000
namespace Go.Proofs.YtdobimafhbfkhaaGreat
open Go.ChangeShapes Go.WideShapes Go.ChangeAt Go.RowKit
set_option maxRecDepth 100000
set_option linter.unusedSimpArgs false
def PredF (F:Nat)(caps:Array Value)(w:World)(cs:List Value)(p:Bool):Prop:=Enters Tryz.prog F∧∀W,Kept (fun _=>False) w W→Calls Tryz.prog F (#[.agg cs.toArray]++caps) W fun e W'=>e = .returned (.bool p)∧Kept (fun _=>False) W W'
theorem PredF.kept {F:Nat}{caps:Array Value}{w w':World}{cs:List Value}{p:Bool}(h:PredF F caps w cs p)(k:Kept (fun _=>False) w w'):PredF F caps w' cs p:=⟨h.1,fun W hW=>h.2 W (k.trans hW (fun _ h=>h.elim))⟩
def pp {α:Type}(p:α→Bool)(xs:List α):Int:=match xs.findIdx? p with
 | some k=>(k:Int)
 | none => -1
theorem idxI_at {α:Type}{p:α→Bool}{xs:List α}{j:Nat}{x:α}(h:∀y∈xs.take j,p y=false)(hx:xs[j]?=some x)(hp:p x=true):pp p xs=j:=by
 unfold pp;have hlt:=(FO.1 hx).1;have:xs.findIdx? p=some j:=by
  refine List.findIdx?_eq_some_iff_getElem.2 ⟨hlt,?_,fun i hi=>?_⟩
  ·rw [FP hlt]at hx
   rw [Option.some.inj hx];exact hp
  ·have:=h (xs[i]'(by omega)) (List.mem_take_iff_getElem.2 ⟨i,by omega,rfl⟩)
   simp [this]
 rw [this]
theorem sW {α:Type}{p:α→Bool}{xs:List α}(h:∀y∈xs,p y=false):pp p xs = -1:=by
 unfold pp;rw [List.findIdx?_eq_none_iff.2 h]
theorem uY {α:Type}(p:α→Bool)(xs:List α):decide (0≤pp p xs)=xs.any p:=by
 unfold pp;cases h:xs.findIdx? p with
 | none =>
  have:=List.findIdx?_eq_none_iff.1 h;simp only
  symm
  rw [show decide ((0:Int) ≤ -1)=false by decide];exact List.any_eq_false.2 (fun x hx=>by simp [this x hx])
 | some k =>
  obtain⟨hlt,hk,_⟩:=List.findIdx?_eq_some_iff_getElem.1 h;simp only;rw [show decide ((0:Int)≤(k:Int))=true by simp]
  symm
  exact List.any_eq_true.2 ⟨_,List.getElem_mem hlt,hk⟩
theorem ni {α:Type}{L:List α}{i:Nat}{p:α}{P:α→Prop}(h:∀x∈L.take i,P x)(hp:L[i]?=some p)(hP:P p):∀x∈L.take (i+1),P x:=by
 intro x hx;rw [F3,hp]at hx;rcases F2.1 hx with hx|hx
 ·exact h x hx
 ·simp at hx;subst hx;exact hP
theorem bi {α:Type}{f:α→List Value}{z:Nat}(hf:∀a,(f a).length=z){w:World}{ao:Option Addr}{N cap j:Nat}{xs:List α}{x:α}(h:Rd w z (.slice ao N cap) N (xs.flatMap f))(hx:xs[j]?=some x)(hl:xs.length=N):∃g o,ao=some ⟨g,o,none⟩∧w.rangeAt g (o+j*z) (f x):=by
 have hlt:=(FO.1 hx).1;rcases h.2.2 with ⟨_,_,hv,_,_,_,hc⟩
 cases hv;rcases hc with h0|⟨g,o,hg,hcell⟩
 ·omega
 ·refine⟨g,o,hg,fun i u hu=>?_⟩
  rw [Nat.add_assoc];exact hcell _ _ (bB hf xs j x hx i u hu)
section
variable {P : Program} {w : World} {o : Oper} {a : Act}
theorem aV {ops:Array Oper}{rest:List Oper}{Q:Exit→Act→World→Prop}(hgd:o.guard=none)(ty:TypeId)(x:Operand)(ho:o.op = .load ty x)(b i:Nat)(hx:a.eval x = .pointer (some ⟨b,i,none⟩))(cs:List Value)
  (hl:(loadVar ty ⟨b,i,none⟩).run P w = .ok (.agg cs.toArray) w) (h:wpList P ops Q rest (a.put o.dst (.agg cs.toArray)) w):wpList P ops Q (o::rest) a w :=
 wpList_plain hgd fun _ hK=>by
  unfold Oper.wp execOp;simp only [ho,hx,Instr.loadAt,Instr.sureAddr,Sem.run_bind,Sem.run_pure,Result.andThen_ok,hl];exact hK _ _ h
theorem bF {K:Act→Prop}(ty:TypeId)(x:Operand)(ho:o.op = .load ty x)(b i:Nat)(hx:a.eval x = .pointer (some ⟨b,i,none⟩))(cs:List Value)
  (hl:(loadVar ty ⟨b,i,none⟩).run P w = .ok (.agg cs.toArray) w) (h:K (a.put o.dst (.agg cs.toArray))):o.still P a w K:=by
 unfold Oper.still execOp;simp only [ho,hx,Instr.loadAt,Instr.sureAddr,Sem.run_bind,Sem.run_pure,Result.andThen_ok,hl];rw [Oper.stillUpon_value];exact h
end
theorem aj {w:World}{b:Nat}{cs:List Value}{t:TypeId}{fr:Nat×Nat}(h:w.heap[b]?=some (.cells cs.toArray t fr)):w.rangeAt b 0 cs:=fun j v hv=>by
 rw [cell_of_row w b (0+j) cs.toArray t fr h,Nat.zero_add]
 simpa using hv
theorem oP (w:World)(z cs:Array Value)(t:TypeId):(w.alloc (.cells z t)).setRow w.heap.size cs=w.alloc (.cells cs t):=by
 unfold World.setRow World.alloc
 congr 1
 apply Array.ext_getElem?;intro k;simp only [Array.getElem?_modify,Array.getElem?_push];by_cases hk:k=w.heap.size
 ·subst hk;simp
 ·simp [hk,Ne.symm hk]
section
variable {P : Program} {B w : World} {D : PH} {l : List HP} {ops : Array Oper} {rest : List Oper} {o : Oper} {a : Act} {Q : Exit → Act → World → Prop}
theorem cI (hgd:o.guard=none)(ty:TypeId)(x y:Operand)(ho:o.op = .store ty x y)
  (cells:List Value) (z:Array Value) (t:TypeId) (hx:a.eval x = .pointer (some ⟨w.heap.size,0,none⟩)) (hy:a.eval y = .agg cells.toArray) (hi:(P.info? ty).map (·.size)=some cells.length)
  (hold:z.size=cells.length) (h1:∀u∈cells,u.oneCell'=true)
  (h:wpList P ops Q rest (a.put o.dst undef) (w.alloc (.cells cells.toArray t))):wpList P ops Q (o::rest) a (w.alloc (.cells z t)) :=
 wpList_store_row hgd ty x y ho w.heap.size cells.toArray hx hy t z (ak w _) (by simpa using hi) (by simpa using hold) (by simpa [List.all_eq_true]using h1) (by rw [oP];exact h)
theorem cZ (hgd:o.guard=none)(ty:TypeId)(x y:Operand)(ho:o.op = .store ty x y)(e:TypeId)(g off:Nat)(hx:a.eval x = .pointer (some ⟨g,off,none⟩))(cs:List Value)(hy:a.eval y = .agg cs.toArray)(cur:List Value)(hs:Sat B D w (blk g cur.toArray e::l))
  (hi:(P.info? ty).map (·.size)=some cs.length) (hfit:off+cs.length≤cur.length) (h1:∀u∈cs,u.oneCell'=true)
  (h:∀w',Sat B D w' (blk g (lay cur off cs).toArray e::l)→wpList P ops Q rest (a.put o.dst undef) w'):wpList P ops Q (o::rest) a w :=
 wpList_plain hgd fun _ hK=>by
  have hst:=run_storeCells_at P g off e cs 0 cur.toArray w hs.heap_blk (by simpa using hfit) h1;simp only [Nat.add_zero]at hst;have hsz:∃i,P.info? ty=some i∧i.size=cs.length:=by
   cases hq:P.info? ty with
   | none=>rw [hq]at hi;cases hi
   | some i=>exact⟨i,rfl,by rw [hq]at hi;simpa using hi⟩
  obtain⟨i,hq,hsi⟩:=hsz;have hrun:(storeVar ty ⟨g,off,none⟩ (.agg cs.toArray)).run P w = .ok () (w.setRow g (lay cur off cs).toArray):=by
   simp [storeVar,sizeOf,typeInfo,hq,hsi,Value.cells,hst,lay]
  unfold Oper.wp execOp;simp only [ho,hx,hy,Instr.storeAt,Instr.sureAddr,Sem.run_bind,Sem.run_pure,Result.andThen_ok,hrun];exact hK _ _ (h _ (hs.setRow _))
theorem lY {α:Type}{f:α→List Value}{z:Nat}(hf:∀a,(f a).length=z){xs:List α}{i:Nat}{x:α}(hi:i<xs.length):((xs.set i x).flatMap f)=lay (xs.flatMap f) (i*z) (f x):=by
 unfold lay;rw [hf,fw hf,show i*z+z=(i+1)*z by rw [Nat.succ_mul],gr hf,List.set_eq_take_append_cons_drop,if_pos hi];simp
theorem uR {cur cs:List Value}{off n:Nat}(h:off+cs.length≤n)(hn:n≤cur.length):(lay cur off cs).take n=lay (cur.take n) off cs:=by
 unfold lay;rw [FU,List.take_append,List.take_append,F0,List.take_take];rw [show min off cur.length=off by omega];rw [show min n off=off by omega,FS (l:=cs) (by omega)];rw [List.take_take,show min off n=off by omega,FU]
 congr 2
 rw [List.drop_take]
 congr 1
 omega
theorem fM {α:Type}{f:α→List Value}{z:Nat}(hf:∀a,(f a).length=z)(hone:∀a,∀u∈f a,u.oneCell'=true)(hgd:o.guard=none)(ty:TypeId)(x y:Operand)(ho:o.op = .store ty x y)(e:TypeId)(g off i n cap:Nat)(hx:a.eval x = .pointer (some ⟨g,off,none⟩))(hoff:off=i*z)(b:α)(hy:a.eval y = .agg (f b).toArray)(xs:List α)
  (hs:Sat B D w (aD e z (.slice (some ⟨g,0,none⟩) n cap) n (xs.flatMap f)::l)) (hi:(P.info? ty).map (·.size)=some z) (hin:i<n) (hn:xs.length=n)
  (h:∀w',Sat B D w' (aD e z (.slice (some ⟨g,0,none⟩) n cap) n ((xs.set i b).flatMap f)::l)→wpList P ops Q rest (a.put o.dst undef) w'):wpList P ops Q (o::rest) a w:=by
 subst hoff;obtain⟨cur,hb,h1,h2,h3,h4,h5,h6⟩:=hs.own_row;have hle:i*z+z≤n*z:=by rw [←Nat.succ_mul];exact Nat.mul_le_mul_right _ hin
 have hnc:n*z≤cap*z:=Nat.mul_le_mul_right _ h1;refine cZ hgd ty x y ho e g (i*z) hx (f b) hy cur hb (by rw [hf];exact hi) (by rw [hf];omega) (hone b) (fun w' hs'=>h w' ?_);refine hs'.row_own h1 h2 (by rw [cQ _ _ _ (by rw [hf];omega)];exact h3) ?_ (fun u hu=>?_)
 ·rw [uR (by rw [hf];omega) (by omega),h4,lY hf (by omega)]
 ·obtain⟨a',_,hu⟩:=Gi.1 hu
  exact hone a' u hu
end
theorem np {α:Type}{ys:List α}{i:Nat}{x:α}(h:i<ys.length):(ys.set i x).take (i+1)=ys.take i ++ [x]:=by
 rw [List.set_eq_take_append_cons_drop,if_pos h,List.take_append,FS (by rw [F0];omega),F0,Nat.min_eq_left (by omega),show i+1-i=1 by omega]
 rfl
theorem qE : ∀(cs:List Value) (k:Nat) (A:Array Value),k+cs.length≤A.size→((cs.zipIdx k).foldl (fun (A:Array Value) (x:Value×Nat)=>A.setIfInBounds (0+x.2) x.1) A).toList=lay A.toList k cs
 | [],k,A,_=>by unfold lay;simp
 | c::cs,k,A,h=>by
  simp only [List.length_cons]at h;rw [List.zipIdx_cons,List.foldl_cons,qE cs (k+1) _ (by simp;omega)];unfold lay;simp only [Nat.zero_add,Array.toList_setIfInBounds,List.length_cons];rw [np (by simp;omega),List.drop_set,if_pos (by omega),show k+1+cs.length=k+(cs.length+1) by omega];simp
theorem nd {P:Program}(w:World)(t e:TypeId)(i:TypeInfo)(z:Value)(cs:List Value)(ht:P.underlying t=some (.slice e))(hi:P.info? e=some i)(hz:i.zero=some z)(hsize:i.size=cs.length)(hpos:0<cs.length)(hle:cs.length≤1000) :
  (Instr.buildSlice t 1 #[(0,.agg cs.toArray)]).run P w = .ok (.slice (some ⟨w.heap.size,0,none⟩) 1 1) (w.alloc (.cells cs.toArray e)):=by
 have hf:∀A:Array Value,A.size=cs.length→cs.zipIdx.foldl (fun (cs:Array Value) (x:Value×Nat)=>cs.setIfInBounds x.2 x.1) A=cs.toArray:=by
  intro A hA;apply Array.toList_inj.1;have:=qE cs 0 A (by omega);simp only [Nat.zero_add]at this;rw [this];unfold lay;simp [hA]
 have hne:cs.length≠0:=by omega
 have h24:¬(16777216<cs.length):=by omega
 simp [Instr.buildSlice,run_underlying ht,sizeOf,typeInfo,zeroValue,hi,hz,hsize,Instr.fill,Value.cells,newRow,hne,h24]
 congr 2
 exact hf _ (by simp)
theorem dL {P:Program}{ops:Array Oper}{rest:List Oper}{o:Oper}{a:Act}{w:World}{Q:Exit→Act→World→Prop}(hgd:o.guard=none)(t:TypeId)(x:Operand)(ho:o.op = .buildSlice t 1 #[(0,x)])(e:TypeId)(i:TypeInfo)(z:Value)(cs:List Value)(hx:a.eval x = .agg cs.toArray)(ht:P.underlying t=some (.slice e))(hi:P.info? e=some i)(hz:i.zero=some z)(hsize:i.size=cs.length)(hpos:0<cs.length)(hle:cs.length≤1000)
  (h:wpList P ops Q rest (a.put o.dst (.slice (some ⟨w.heap.size,0,none⟩) 1 1)) (w.alloc (.cells cs.toArray e))):wpList P ops Q (o::rest) a w :=
 wpList_plain hgd fun _ hK=>by
  have hrun:=nd w t e i z cs ht hi hz hsize hpos hle;unfold Oper.wp execOp;simp only [ho,List.map_toArray,List.map_cons,List.map_nil,hx,Sem.run_bind,Sem.run_pure,Result.andThen_ok,hrun];exact hK _ _ h
@[go_sem] theorem run_makeFunc (P:Program)(fn:Fn)(first cap:Array Value)(w:World):(Instr.makeFunc fn first cap).run P w = .ok (.func fn first cap) w:=rfl
def PredS (B:World)(D:PH)(l:List HP)(F:Nat)(caps:Array Value)(cs:List Value)(p:Bool):Prop:=∀(W:World) (X:List HP),Sat B D W (X++l)→Calls Tryz.prog F (#[.agg cs.toArray]++caps) W fun e W'=>e = .returned (.bool p)∧Kept (fun _=>False) W W'
theorem jp {W:World}{b1:Nat}{c1:Array Value}{t1:TypeId}(h1:W.heap[b1]?=some (.cells c1 t1 (0,0)))(cs:Array Value)(t:TypeId):∃W1,W1=W.alloc (.cells cs t)∧Kept (fun _=>False) W W1∧W1.heap[W.heap.size]?=some (.cells cs t (0,0))∧W1.heap[b1]?=some (.cells c1 t1 (0,0)) :=
 ⟨_,rfl,(Kept.refl _ _).alloc _,ak W _,de h1⟩
theorem aA {w W:World}{b:Nat}{ob:Obj}(k:Kept (fun _=>False) w W)(h:w.heap[b]?=some ob):W.heap[b]?=some ob:=(k.block b (aw h) (fun h=>h)).trans h
theorem pw (w:World)(c1 c2:Array Value)(t1 t2:TypeId):∃W,W=(w.alloc (.cells c1 t1)).alloc (.cells c2 t2)∧Kept (fun _=>False) w W∧W.heap[w.heap.size]?=some (.cells c1 t1 (0,0))∧W.heap[w.heap.size+1]?=some (.cells c2 t2 (0,0)):=by
 have z1:(w.alloc (.cells c1 t1)).heap.size=w.heap.size+1:=Array.size_push ..;have a1:=ak (w.alloc (.cells c1 t1)) (.cells c2 t2);rw [z1]at a1;exact⟨_,rfl,((Kept.refl _ _).alloc _).alloc _,de (ak w _),a1⟩
theorem alloc3 (w:World)(c1 c2 c3:Array Value)(t1 t2 t3:TypeId):∃W,W=((w.alloc (.cells c1 t1)).alloc (.cells c2 t2)).alloc (.cells c3 t3)∧Kept (fun _=>False) w W∧W.heap[w.heap.size]?=some (.cells c1 t1 (0,0))∧W.heap[w.heap.size+1]?=some (.cells c2 t2 (0,0))∧W.heap[w.heap.size+1+1]?=some (.cells c3 t3 (0,0)):=by
 have z1:(w.alloc (.cells c1 t1)).heap.size=w.heap.size+1:=Array.size_push ..;have z2:((w.alloc (.cells c1 t1)).alloc (.cells c2 t2)).heap.size=w.heap.size+1+1:=(Array.size_push ..).trans (by rw [z1]);have a1:=ak (w.alloc (.cells c1 t1)) (.cells c2 t2);have a2:=ak ((w.alloc (.cells c1 t1)).alloc (.cells c2 t2)) (.cells c3 t3);rw [z1]at a1;rw [z2]at a2;exact⟨_,rfl,(((Kept.refl _ _).alloc _).alloc _).alloc _,de (de (ak w _)),de a1,a2⟩
theorem PredS.more {B:World}{D:PH}{l:List HP}{F:Nat}{caps:Array Value}{cs:List Value}{p:Bool}(h:PredS B D l F caps cs p)(Y:List HP):PredS B D (Y++l) F caps cs p:=fun W X hs=>h W (X++Y) (by rw [FU];exact hs)
theorem fu {B w:World}{D:PH}{l:List HP}(hs:Sat B D w l)(c1 c2:Array Value)(t1 t2:TypeId):∃W,W=(w.alloc (.cells c1 t1)).alloc (.cells c2 t2)∧Sat B D W (blk w.heap.size c1 t1::blk (w.heap.size+1) c2 t2::l):=by
 have h:=((hs.alloc c1 t1).alloc c2 t2);rw [World.size_alloc]at h;exact⟨_,rfl,h.swap⟩
abbrev tPr : TypeId:=30
structure PredE where
 op:Int
 col:Int
 v:Val
 w:Val
 la:Option Addr
 ln:Nat
 lc:Nat
 subs:List PredT
def PredE.cells (x:PredE):List Value:=[.int .i64 x.op,.int .i64 x.col,.bool x.v.t,.int .i64 x.v.n,.string x.v.s,.bool x.w.t,.int .i64 x.w.n,.string x.w.s,.slice x.la x.ln x.lc]
def PredE.p (x:PredE):PredT:=.mk x.op x.col x.v x.w x.subs
theorem PredE.len (x:PredE):x.cells.length=9:=rfl
theorem PredE.one (x:PredE):∀u∈x.cells,u.oneCell'=true:=by intro u hu;simp [PredE.cells]at hu;rcases hu with rfl|rfl|rfl|rfl|rfl|rfl|rfl|rfl|rfl<;>rfl
inductive PredsAt (D:PH):Value→List PredT→Prop where
 | mk (v:Value) (es:List PredE) (h:RdP D 9 v es.length (es.flatMap PredE.cells)) (hs:∀e∈es,PredsAt D (.slice e.la e.ln e.lc) e.subs):PredsAt D v (es.map PredE.p)
inductive PredsRd (w:World):Value→List PredT→Prop where
 | mk (v:Value) (es:List PredE) (h:Rd w 9 v es.length (es.flatMap PredE.cells)) (hs:∀e∈es,PredsRd w (.slice e.la e.ln e.lc) e.subs):PredsRd w v (es.map PredE.p)
theorem PredsAt.mono {D D':PH}(le:PH.le D D'){v:Value}{l:List PredT}(h:PredsAt D v l):PredsAt D' v l:=by
 induction h with
 | mk v es h _ ih=>exact .mk v es (h.mono le) ih
theorem PredsAt.rd {B w:World}{D:PH}{l':List HP}(hs:Sat B D w l'){v:Value}{l:List PredT}(h:PredsAt D v l):PredsRd w v l:=by
 induction h with
 | mk v es h _ ih=>exact .mk v es (h.rd hs) ih
theorem PredsRd.kept {w w':World}(k:Kept (fun _=>False) w w'){v:Value}{l:List PredT}(h:PredsRd w v l):PredsRd w' v l:=by
 induction h with
 | mk v es h _ ih=>exact .mk v es (h.kept k (fun _ _ h=>h)) ih
abbrev em (w:World)(v:Value)(r:List Val):Prop:=Rd w 3 v r.length (r.flatMap Val.cells)
abbrev wl (D:PH)(v:Value)(r:List Val):Prop:=RdP D 3 v r.length (r.flatMap Val.cells)
def RowsAt (D:PH)(v:Value)(rs:List (List Val)):Prop:=∃hs:List Value,hs.length=rs.length∧(∀u∈hs,u.oneCell'=true)∧RdP D 1 v rs.length hs∧∀(i:Nat) (h:Value) (r:List Val),hs[i]?=some h→rs[i]?=some r→wl D h r
def RowsRd (w:World)(v:Value)(rs:List (List Val)):Prop:=∃hs:List Value,hs.length=rs.length∧Rd w 1 v rs.length hs∧∀(i:Nat) (h:Value) (r:List Val),hs[i]?=some h→rs[i]?=some r→em w h r
theorem RowsAt.mono {D D':PH}(le:PH.le D D'){v:Value}{rs:List (List Val)}(h:RowsAt D v rs):RowsAt D' v rs:=by
 obtain⟨hs,h1,h2,h3,h4⟩:=h;exact⟨hs,h1,h2,h3.mono le,fun i u r a b=>(h4 i u r a b).mono le⟩
theorem RowsAt.rd {B w:World}{D:PH}{l:List HP}(hs:Sat B D w l){v:Value}{rs:List (List Val)}(h:RowsAt D v rs):RowsRd w v rs:=by
 obtain⟨us,h1,h2,h3,h4⟩:=h;exact⟨us,h1,h3.rd hs,fun i u r a b=>(h4 i u r a b).rd hs⟩
theorem RowsRd.kept {w w':World}(k:Kept (fun _=>False) w w'){v:Value}{rs:List (List Val)}(h:RowsRd w v rs):RowsRd w' v rs:=by
 obtain⟨hs,h1,h2,h3⟩:=h;exact⟨hs,h1,h2.kept k (fun _ _ h=>h),fun i u r a b=>(h3 i u r a b).kept k (fun _ _ h=>h)⟩
theorem ol : ∀u∈(Builtin.zeroCells (Value.agg #[.bool false,.int .i64 0,.string ⟨#[]⟩]).cells 1).toList,u.oneCell'=true:=fZ qw 1
theorem nY : ∀u∈(Builtin.zeroCells (Value.int .i64 0).cells 1).toList,u.oneCell'=true:=fZ pM 1
theorem nC (w:World):(zeroValue 24).run Tryz.prog w = .ok (.agg #[.bool false,.int .i64 0,.string ⟨#[]⟩]) w:=Tryz.zeroValue24 w
theorem mZ {B w:World}{D:PH}{l:List HP}{v:Value}{n i:Nat}{xs ys:List Value}(hys:ys=xs.take (i*3)++xs.drop ((i+1)*3))(hin:i≤n)(hs:Sat B D w (aD 24 3 v (n+1) xs::l)) :
  Calls Tryz.prog 119 #[v,.int .i64 i,.int .i64 (i+1)] w fun e w'=>∃v',e = .returned v'∧Sat B D w' (aD 24 3 v' n ys::l):=by
 obtain⟨i0,hi,hz0,hz1,hz2⟩:=info_parts iN;obtain⟨g,cap,rfl,hnc,hcm⟩:=(hs.own 0 rfl).form (by omega);have ho:=hs.own 0 rfl;have hxl:=ho.1;have hc1:=ho.2.1;have hcm':=hcm;unfold maxLen at hcm;have hcut:=(hs.own_cut (m:=i) (c:=cap) (by omega) (by omega) (by omega)).drew;have hrd1:∀o,(i+1<cap→o=((i+1)*3))→Rd w.drew 3 (.slice (some ⟨g,o,none⟩) (n-i) (cap-(i+1))) (n-i) (xs.drop ((i+1)*3)):=fun o ho'=>by
  refine⟨by rw [Ga,hxl,←Nat.sub_mul];congr 1;omega,by unfold maxLen;omega,_,_,rfl,by omega,by unfold maxLen;omega,(fun h=>by cases h),?_⟩;by_cases hc:n-i=0
  ·exact .inl hc
  ·refine .inr ⟨g,_,rfl,fun j u hu=>?_⟩
   rw [ho' (by omega)];rw [List.getElem?_drop]at hu;have:=ho.cells _ u hu
   simpa using this
 have HC:=FH hcut;have wQ:=FH hrd1;have HI:=FH (And.intro hi (And.intro hz0 (And.intro hz1 hz2)));have xU:=FH hxl;have xG:=FH hc1;have yp:=FH hys;have xz:=FH (show ∀u∈xs.drop ((i+1)*3),u.oneCell'=true from fun u hu=>hc1 u (Gd hu));clear hs ho hxl hc1 hcut hrd1 hi hz0 hz1 hz2 hys;have hij:¬((i:Int)=(i:Int)+1):=by omega
 have htn:((i:Int)+1).toNat=i+1:=by omega
 have hb0:(0:Int)≤(i:Int)+1:=by omega
 have hb1:(i:Int)≤(i:Int)+1:=by omega
 have hb2:(i:Int)+1≤(n:Int)+1:=by omega
 have hb3:(n:Int)+1≤(cap:Int):=by omega
 have hb4:(i:Int)≤(cap:Int):=by omega
 have hb5:i≤cap:=by omega
 have hb7:¬(cap=n):=by omega
 go_enter Tryz.func119,Tryz.ntmps119;go_upto_region 5 with (fail)
 by_cases hci:cap=i+1
 ·have hrd:=wQ.out 0 (by omega)
  have HR:=FH hrd;clear hrd wQ;subst hci;obtain rfl:n=i:=by omega
  refine aH [rq 0 6,rq 1 6,rq 2 6,rq 3 6,rq 4 6,rq 5 6,(6,true,0),rq 7 999] ?_;iterate 6 (refine ae rfl rfl fun K hK=>?_;go_simp;apply hK;clear hK K)
  refine af rfl ?_;refine bX _ rfl _ _ 25 rfl 24 i0 3 Tryz.underlying25 HI.out.1 HI.out.2.2.1 g n _ _ rfl HC.out (.slice (some ⟨g,0,none⟩) 0 0) 0 _ rfl (by simpa using HR.out) xz.out (by omega) ?_;intro w3 h3;rw [Nat.add_zero]at h3 ⊢;obtain⟨cur,h4,_,_,hcz,hct,_,hcl⟩:=h3.own_row;have H4:=FH h4;have yO:=FH hct;clear h3 h4 hct hcl HC HR;refine wpList_nil ?_;apply And.intro
  ·go_simp
  refine ae rfl rfl fun K hK=>?_;go_simp;apply hK;clear hK K;refine ag ?_;go_wp2_with (show wpList _ _ _ (⟨none,.call _,_,_,_,_⟩::_) _ _;refine cU _ rfl _ 25 rfl 24 _ Tryz.underlying25 (fun w=>nC w) g _ 1 _ rfl cur H4.out (by omega) (by simp [size_zeroCells,Value.cells];omega) ol ?_;intro w5 h5;have H5:=FH h5;clear h5);go_ret;refine⟨_,rfl,H5.out.row_own (by omega) hcm' (by rw [cQ _ _ _ (by simp [size_zeroCells,Value.cells];omega)];exact hcz) ?_ ?_⟩
  ·unfold lay
   rw [FU,F9 (by rw [F0];omega),yp.out,←yO.out,List.take_take]
   congr 1
   omega
  ·intro u hu
   rw [yp.out]at hu;exact(F2.1 hu).elim (fun h=>xG.out u (Gf h)) (fun h=>xG.out u (Gd h))
 ·have hrd:=wQ.out ((i+1)*3) (fun _=>rfl)
  have HR:=FH hrd;clear hrd wQ;refine aH [rq 0 6,rq 1 6,rq 2 6,rq 3 6,rq 4 6,rq 5 6,(6,true,0),rq 7 999] ?_;iterate 6 (refine ae rfl rfl fun K hK=>?_;go_simp;apply hK;clear hK K)
  refine af rfl ?_;refine bX _ rfl _ _ 25 rfl 24 i0 3 Tryz.underlying25 HI.out.1 HI.out.2.2.1 g i _ _ rfl HC.out (.slice (some ⟨g,((i+1)*3),none⟩) (n-i) (cap-(i+1))) (n-i) _ rfl HR.out xz.out (by omega) ?_;intro w3 h3;rw [show i+(n-i)=n by omega]at h3 ⊢;obtain⟨cur,h4,_,_,hcz,hct,_,hcl⟩:=h3.own_row;have H4:=FH h4;have yO:=FH hct;clear h3 h4 hct hcl HC HR;refine wpList_nil ?_;apply And.intro
  ·go_simp
  refine ae rfl rfl fun K hK=>?_;go_simp;apply hK;clear hK K;refine ag ?_;go_wp2_with (show wpList _ _ _ (⟨none,.call _,_,_,_,_⟩::_) _ _;refine cU _ rfl _ 25 rfl 24 _ Tryz.underlying25 (fun w=>nC w) g _ 1 _ rfl cur H4.out (by omega) (by simp [size_zeroCells,Value.cells];omega) ol ?_;intro w5 h5;have H5:=FH h5;clear h5);go_ret;refine⟨_,rfl,H5.out.row_own (by omega) hcm' (by rw [cQ _ _ _ (by simp [size_zeroCells,Value.cells];omega)];exact hcz) ?_ ?_⟩
  ·unfold lay
   rw [FU,F9 (by rw [F0];omega),yp.out,←yO.out,List.take_take]
   congr 1
   omega
  ·intro u hu
   rw [yp.out]at hu;exact(F2.1 hu).elim (fun h=>xG.out u (Gf h)) (fun h=>xG.out u (Gd h))
theorem nU (w:World):(zeroValue 3).run Tryz.prog w = .ok (.int .i64 0) w:=Tryz.zeroValue3 w
theorem rL {B w:World}{D:PH}{l:List HP}{v:Value}{n i:Nat}{xs ys:List Value}(hys:ys=xs.take (i*1)++xs.drop ((i+1)*1))(hin:i≤n)(hs:Sat B D w (aD 3 1 v (n+1) xs::l)) :
  Calls Tryz.prog 144 #[v,.int .i64 i,.int .i64 (i+1)] w fun e w'=>∃v',e = .returned v'∧Sat B D w' (aD 3 1 v' n ys::l):=by
 obtain⟨i0,hi,hz0,hz1,hz2⟩:=info_parts lB;obtain⟨g,cap,rfl,hnc,hcm⟩:=(hs.own 0 rfl).form (by omega);have ho:=hs.own 0 rfl;have hxl:=ho.1;have hc1:=ho.2.1;have hcm':=hcm;unfold maxLen at hcm;have hcut:=(hs.own_cut (m:=i) (c:=cap) (by omega) (by omega) (by omega)).drew;have hrd1:∀o,(i+1<cap→o=(i+1))→Rd w.drew 1 (.slice (some ⟨g,o,none⟩) (n-i) (cap-(i+1))) (n-i) (xs.drop ((i+1)*1)):=fun o ho'=>by
  refine⟨by rw [Ga,hxl,←Nat.sub_mul];congr 1;omega,by unfold maxLen;omega,_,_,rfl,by omega,by unfold maxLen;omega,(fun h=>by cases h),?_⟩;by_cases hc:n-i=0
  ·exact .inl hc
  ·refine .inr ⟨g,_,rfl,fun j u hu=>?_⟩
   rw [ho' (by omega)];rw [List.getElem?_drop]at hu;have:=ho.cells _ u hu
   simpa using this
 have HC:=FH hcut;have wQ:=FH hrd1;have HI:=FH (And.intro hi (And.intro hz0 (And.intro hz1 hz2)));have xU:=FH hxl;have xG:=FH hc1;have yp:=FH hys;have xz:=FH (show ∀u∈xs.drop ((i+1)*1),u.oneCell'=true from fun u hu=>hc1 u (Gd hu));clear hs ho hxl hc1 hcut hrd1 hi hz0 hz1 hz2 hys;have hij:¬((i:Int)=(i:Int)+1):=by omega
 have htn:((i:Int)+1).toNat=i+1:=by omega
 have hb0:(0:Int)≤(i:Int)+1:=by omega
 have hb1:(i:Int)≤(i:Int)+1:=by omega
 have hb2:(i:Int)+1≤(n:Int)+1:=by omega
 have hb3:(n:Int)+1≤(cap:Int):=by omega
 have hb4:(i:Int)≤(cap:Int):=by omega
 have hb5:i≤cap:=by omega
 have hb7:¬(cap=n):=by omega
 go_enter Tryz.func144,Tryz.ntmps144;go_upto_region 5 with (fail)
 by_cases hci:cap=i+1
 ·have hrd:=wQ.out 0 (by omega)
  have HR:=FH hrd;clear hrd wQ;subst hci;obtain rfl:n=i:=by omega
  refine aH [rq 0 6,rq 1 6,rq 2 6,rq 3 6,rq 4 6,rq 5 6,(6,true,0),rq 7 999] ?_;iterate 6 (refine ae rfl rfl fun K hK=>?_;go_simp;apply hK;clear hK K)
  refine af rfl ?_;refine bX _ rfl _ _ 117 rfl 3 i0 1 Tryz.underlying117 HI.out.1 HI.out.2.2.1 g n _ _ rfl HC.out (.slice (some ⟨g,0,none⟩) 0 0) 0 _ rfl (by simpa using HR.out) xz.out (by omega) ?_;intro w3 h3;rw [Nat.add_zero]at h3 ⊢;obtain⟨cur,h4,_,_,hcz,hct,_,hcl⟩:=h3.own_row;have H4:=FH h4;have yO:=FH hct;clear h3 h4 hct hcl HC HR;refine wpList_nil ?_;apply And.intro
  ·go_simp
  refine ae rfl rfl fun K hK=>?_;go_simp;apply hK;clear hK K;refine ag ?_;go_wp2_with (show wpList _ _ _ (⟨none,.call _,_,_,_,_⟩::_) _ _;refine cU _ rfl _ 117 rfl 3 _ Tryz.underlying117 (fun w=>nU w) g _ 1 _ rfl cur H4.out (by omega) (by simp [size_zeroCells,Value.cells];omega) nY ?_;intro w5 h5;have H5:=FH h5;clear h5);go_ret;refine⟨_,rfl,H5.out.row_own (by omega) hcm' (by rw [cQ _ _ _ (by simp [size_zeroCells,Value.cells];omega)];exact hcz) ?_ ?_⟩
  ·unfold lay
   rw [FU,F9 (by rw [F0];omega),yp.out,←yO.out,List.take_take]
   congr 1
   omega
  ·intro u hu
   rw [yp.out]at hu;exact(F2.1 hu).elim (fun h=>xG.out u (Gf h)) (fun h=>xG.out u (Gd h))
 ·have hrd:=wQ.out (i+1) (fun _=>rfl)
  have HR:=FH hrd;clear hrd wQ;refine aH [rq 0 6,rq 1 6,rq 2 6,rq 3 6,rq 4 6,rq 5 6,(6,true,0),rq 7 999] ?_;iterate 6 (refine ae rfl rfl fun K hK=>?_;go_simp;apply hK;clear hK K)
  refine af rfl ?_;refine bX _ rfl _ _ 117 rfl 3 i0 1 Tryz.underlying117 HI.out.1 HI.out.2.2.1 g i _ _ rfl HC.out (.slice (some ⟨g,(i+1),none⟩) (n-i) (cap-(i+1))) (n-i) _ rfl HR.out xz.out (by omega) ?_;intro w3 h3;rw [show i+(n-i)=n by omega]at h3 ⊢;obtain⟨cur,h4,_,_,hcz,hct,_,hcl⟩:=h3.own_row;have H4:=FH h4;have yO:=FH hct;clear h3 h4 hct hcl HC HR;refine wpList_nil ?_;apply And.intro
  ·go_simp
  refine ae rfl rfl fun K hK=>?_;go_simp;apply hK;clear hK K;refine ag ?_;go_wp2_with (show wpList _ _ _ (⟨none,.call _,_,_,_,_⟩::_) _ _;refine cU _ rfl _ 117 rfl 3 _ Tryz.underlying117 (fun w=>nU w) g _ 1 _ rfl cur H4.out (by omega) (by simp [size_zeroCells,Value.cells];omega) nY ?_;intro w5 h5;have H5:=FH h5;clear h5);go_ret;refine⟨_,rfl,H5.out.row_own (by omega) hcm' (by rw [cQ _ _ _ (by simp [size_zeroCells,Value.cells];omega)];exact hcz) ?_ ?_⟩
  ·unfold lay
   rw [FU,F9 (by rw [F0];omega),yp.out,←yO.out,List.take_take]
   congr 1
   omega
  ·intro u hu
   rw [yp.out]at hu;exact(F2.1 hu).elim (fun h=>xG.out u (Gf h)) (fun h=>xG.out u (Gd h))
theorem lm : (Tryz.prog.info? 26).map (fun i=>(i.zero,i.size,i.bytes))=some (some (.slice none 0 0),1,24):=by kernel_rfl
theorem qL : ∀u∈(Value.slice none 0 0).cells.toList,u.oneCell'=true:=by intro u hu;simp [Value.cells]at hu;subst hu;rfl
theorem uw {B w:World}{D:PH}{l:List HP}{v:Value}{n:Nat}{xs:List Value}(hrd:Rd w 1 v n xs)(hone:∀u∈xs,u.oneCell'=true)(hb:n*24≤140737488355328)(hs:Sat B D w l) :
  Calls Tryz.prog 125 #[v] w fun e w'=>∃v',e = .returned v'∧Sat B D w' (aD 26 1 v' n xs::l):=by
 obtain⟨i0,hi,hz0,hz1,hz2⟩:=info_parts lm;have hm:=hrd.2.1;obtain⟨ao,cap,rfl,_,_,hnone,hcase⟩:=hrd.2.2;cases ao with
 | none =>
  have h0:n=0:=by rcases hcase with h|⟨g,o,h,_⟩;exact h;cases h
  subst h0;have hx:xs = []:=List.eq_nil_of_length_eq_zero (by simpa using hrd.1);subst hx;have HS:=FH (hs.own_nil 26 1);clear hcase hnone hrd hz0 hz1 hz2 hi hb hs;go_enter Tryz.func125,Tryz.ntmps125;go_wp2_with fail;go_ret;exact⟨_,rfl,HS.out⟩
 | some a =>
  have hown:=Sat.own_fresh (e:=26) (size:=1) (n:=0) (cap:=0) (cs:=#[]) (xs:=[]) hs (by omega) (by omega) (by simp) (by simp) (by simp);have hrd2:Rd (w.alloc (.cells #[] 26)) 1 (.slice (some a) n cap) n xs:=hrd.kept ((Kept.refl (fun _=>False) _).alloc _) (fun _ _ h=>h);have HO:=FH hown;have HR:=FH hrd2;have HI:=FH (And.intro hi (And.intro hz0 (And.intro hz1 hz2)));clear hcase hnone hrd hz0 hz1 hz2 hi hs hown hrd2;go_enter Tryz.func125,Tryz.ntmps125;go_wp2_with (at_builtin;refine az _ rfl _ _ 55 rfl 26 i0 _ 1 24 Tryz.underlying55 HI.out.1 HI.out.2.1 HI.out.2.2.1 HI.out.2.2.2 rfl _ 0 [] rfl HO.out _ n xs rfl HR.out hone (by omega) (by omega) ?_;intro v' w' h1 h2;simp only [Nat.zero_add,List.nil_append]at h1;have H1:=FH h1;clear h1 h2);go_ret;exact⟨_,rfl,H1.out⟩
theorem mz {B w:World}{D:PH}{l:List HP}{v:Value}{n:Nat}{xs xc:List Value}(hxc:xc.length=1)(hx1:∀u∈xc,u.oneCell'=true)(bx:Nat)(hb:(n+1)*24≤140737488355328)(hs:Sat B D w (aD 26 1 v n xs::blk bx xc.toArray 26::l)) :
  Calls Tryz.prog 123 #[v,.int .i64 n,.slice (some ⟨bx,0,none⟩) 1 1] w fun e w'=>∃v',e = .returned v'∧Sat B D w' (aD 26 1 v' (n+1) (xs++xc)::blk bx xc.toArray 26::l):=by
 obtain⟨i0,hi,hz0,hz1,hz2⟩:=info_parts lm;have hle:=(hs.own 0 rfl).le;obtain⟨ao,cap,hv,hnc,hcm,_⟩:=(hs.own 0 rfl).rd.2.2;subst hv;have hrd:=bC (size:=1) (n:=1) (hs.blk 1 rfl) (by simpa using hxc) (by unfold maxLen;omega);unfold maxLen at hle hcm;have HS:=FH hs;have HR:=FH hrd;have HI:=FH (And.intro hi (And.intro hz0 (And.intro hz1 hz2)));clear hi hz0 hz1 hz2 hs hrd;have hm1:¬((1:Int)=0):=by omega
 go_enter Tryz.func123,Tryz.ntmps123;go_wp2_with (at_builtin;refine az _ rfl _ _ 55 rfl 26 i0 _ 1 24 Tryz.underlying55 HI.out.1 HI.out.2.1 HI.out.2.2.1 HI.out.2.2.2 rfl _ n xs rfl HS.out _ 1 _ rfl HR.out (by simpa using hx1) (by unfold maxLen;omega) (by omega) ?_;intro v' w' h1 h2;have H1:=FH h1;clear h1 h2)
 all_goals
  go_ret;exact⟨_,rfl,by simpa using H1.out⟩
theorem pm {w:World}{bx g:Nat}{xc cur:Array Value}(h1:w.heap[bx]?=some (.cells xc 26 (0,0)))(h2:w.heap[g]?=some (.cells cur 26 (0,0)))(hne:bx≠g)(hc:cur.size≠0)(la ca lb cb off:Nat) :
  (callFunc 137 #[.slice (some ⟨bx,0,none⟩) la ca,.slice (some ⟨g,off,none⟩) lb cb]).run Tryz.prog w = .ok (.value (.bool false)) w:=by
 rw [run_callFunc_extern Tryz.func137 (by kernel_rfl) (by kernel_rfl) (by kernel_rfl) (e:=Extern.SlicesOverlaps.overlaps #[55,55] #[4]) (by kernel_rfl),
  Lib.run_overlaps_apart w 55 4 26 Tryz.underlying55 1 (fun w=>Tryz.sizeOf26 w) ⟨bx,0,none⟩ ⟨g,off,none⟩ la ca lb cb hne 26 26 xc.size cur.size (by simp [World.shape?,h1]) (by simp [World.shape?,h2]) hc (by simp [World.frozen?,h1]) (by simp [World.frozen?,h1])]
 rfl
theorem kY {B w:World}{D:PH}{l:List HP}{g n cap i:Nat}{xs xc ys:List Value}(hys:ys=xs.take (i*1)++xc++xs.drop (i*1))(hin:i<n)(hroom:n+1≤cap)(hxc:xc.length=1)(hx1:∀u∈xc,u.oneCell'=true)(bx:Nat)(hs:Sat B D w (aD 26 1 (.slice (some ⟨g,0,none⟩) n cap) n xs::blk bx xc.toArray 26::l)) :
  Calls Tryz.prog 123 #[.slice (some ⟨g,0,none⟩) n cap,.int .i64 i,.slice (some ⟨bx,0,none⟩) 1 1] w fun e w'=>∃v',e = .returned v'∧Sat B D w' (aD 26 1 v' (n+1) ys::blk bx xc.toArray 26::l):=by
 obtain⟨cur,h1,hnc,hcm,hcz,hct,hc1,hxl⟩:=hs.own_row;have hne:=h1.ne 1 0 (by omega) rfl rfl;have hsz0:cur.toArray.size=cur.length:=by simp
 have hov:=pm (h1.blk 1 rfl) (h1.blk 0 rfl) hne (by omega);have HS:=FH h1.drew;have yO:=FH hct;have xG:=FH hc1;have xU:=FH hxl;have yr:=FH hxc;have yp:=FH hys;have hcm':=hcm;unfold maxLen at hcm';have hrd1:Rd w.drew 1 (.slice (some ⟨g,i,none⟩) (n+1-i) (cap-i)) (n+1-i) ((cur.drop (i*1)).take ((n+1-i)*1)):=by
  refine⟨by rw [F0,Ga];omega,by omega,_,_,rfl,by omega,by omega,(fun h=>by cases h),.inr ⟨g,_,rfl,fun j u hu=>?_⟩⟩;rw [cell_of_row _ g _ _ _ _ h1.drew.heap_blk];rw [List.getElem?_take]at hu;split at hu
  ·rw [List.getElem?_drop]at hu;simpa using hu
  ·cases hu
 have wQ:=FH hrd1;have xF:=FH (show(((cur.drop (i*1)).take ((n+1-i)*1)).take ((n-i)*1))=xs.drop (i*1) by
  rw [List.take_take,Nat.min_eq_left (by omega),←hct,List.drop_take]
  congr 1
  omega)
 have hfree:∀u∈xs.drop (i*1),u.oneCell'=true:=fun u hu=>hc1 u (Gd hu);have yP:=FH hfree;clear hs h1 hct hc1 hxl hxc hys hrd1 hsz0 hfree;have hm1:¬((1:Int)=0):=by omega
 have hin':¬((i:Int)=(n:Int)):=by omega
 have hw1:IntKind.i64.wrap ((i:Int)+1)=(i:Int)+1:=Gr _ (by omega);have hw2:IntKind.i64.wrap ((n:Int)+1)=(n:Int)+1:=Gr _ (by omega);have htn:((i:Int)+1).toNat=i+1:=by omega
 have hb1:(0:Int)≤(i:Int)+1:=by omega
 have hb2:¬(cap=i+1):=by omega
 have hin2:i≤n:=by omega
 have hb3:(i:Int)≤(n:Int)+1:=by omega
 have hb5:i≤n+1:=by omega
 have hb4:¬(cap=i):=by omega
 go_enter Tryz.func123,Tryz.ntmps123;go_wp2_with (simp only [hov]);refine aH [rq 0 8,rq 1 8,rq 2 8,rq 3 8,rq 4 8,rq 5 8,rq 6 8,rq 7 8,(8,true,0)] ?_;iterate 8 (refine ae rfl rfl fun K hK=>?_;go_simp;apply hK;clear hK K)
 refine af rfl ?_;refine bE _ rfl _ _ 55 55 rfl 26 1 Tryz.underlying55 (fun w=>Tryz.sizeOf26 w) g _ _ _ rfl cur HS.out _ _ (n-i) _ (xs.drop (i*1)) rfl wQ.out (by omega) xF.out (by omega) yP.out ?_;intro w2 h2;have wJ:=FH h2;clear h2 HS wQ yP hov;refine wpList_nil ?_;apply And.intro
 ·go_simp
 refine ag ?_;have hrd:=bC (size:=1) (n:=1) (wJ.out.blk 1 rfl) (by simpa using yr.out) (by unfold maxLen;omega);have hlen2:=cQ cur (i+1) (xs.drop (i*1)) (by rw [Ga,xU.out];omega);have zF:=FH hrd;have yl:=FH hlen2;clear hrd hlen2;go_wp2_with (show wpList _ _ _ (⟨some 82,_,_,_,_,_⟩::_) _ _;refine bE _ rfl _ _ 55 55 rfl 26 1 Tryz.underlying55 (fun w=>Tryz.sizeOf26 w) g _ _ _ rfl _ wJ.out _ _ 1 _ xc rfl zF.out (by omega) (by rw [FS (by simp [yr.out])]) (by rw [yl.out];omega) (by simpa using hx1) ?_;intro w3 h3;have wI:=FH h3;clear h3);go_ret;refine⟨_,rfl,wI.out.row_own (by omega) hcm (by rw [cQ _ _ _ (by rw [yl.out,yr.out];omega),yl.out];exact hcz) ?_ ?_⟩
 ·have e:=jt cur xs xc (i*1) 1 (n*1) yO.out (by omega) yr.out (by omega)
  have o1:(i+1)=i*1+1:=by omega
  have o2:i=i*1:=by omega
  have o3:(n+1)*1=n*1+1:=by omega
  rw [yp.out,o3,o1]
  first|exact e|(simp only [Nat.mul_one]at e ⊢;exact e)
 ·intro u hu
  rw [yp.out]at hu;rcases F2.1 hu with hu|hu
  ·rcases F2.1 hu with hu|hu
   ·exact xG.out u (Gf hu)
   ·exact hx1 u hu
  ·exact xG.out u (Gd hu)
theorem ld {B w:World}{D:PH}{l:List HP}{g n cap i:Nat}{xs xc ys:List Value}(hys:ys=xs.take (i*1)++xc++xs.drop (i*1))(hin:i<n)(hroom:cap<n+1)(hxc:xc.length=1)(hx1:∀u∈xc,u.oneCell'=true)(bx:Nat)(hb:(n+1)*24≤140737488355328)
  (hs:Sat B D w (aD 26 1 (.slice (some ⟨g,0,none⟩) n cap) n xs::blk bx xc.toArray 26::l)) :
  Calls Tryz.prog 123 #[.slice (some ⟨g,0,none⟩) n cap,.int .i64 i,.slice (some ⟨bx,0,none⟩) 1 1] w fun e w'=>∃v',e = .returned v'∧Sat B D w' (aD 26 1 v' (n+1) ys::blk bx xc.toArray 26::l):=by
 obtain⟨i0,hi,hz0,hz1,hz2⟩:=info_parts lm;have ho:=hs.own 0 rfl;have hle:=ho.le;obtain⟨_,_,hv,hnc,hcm,_⟩:=ho.rd.2.2;cases hv;have hxl:=ho.1;have hc1:=ho.2.1;unfold maxLen at hle hcm;have holds:∀j v,(xs.take (i*1))[j]?=some v→w.cell? ((⟨g,0,none⟩:Addr).add j)=some v:=fun j v hj=>by
  rw [ew,Nat.zero_add];rw [List.getElem?_take]at hj;split at hj
  ·exact ho.cells j v hj
  ·cases hj
 have HS:=FH hs;have HI:=FH (And.intro hi (And.intro hz0 (And.intro hz1 hz2)));have yE:=FH holds;have xU:=FH hxl;have xG:=FH hc1;have yr:=FH hxc;have yp:=FH hys;clear hs hi hz0 hz1 hz2 holds hxl hc1 hxc hys ho;have hm1:¬((1:Int)=0):=by omega
 have hin':¬((i:Int)=(n:Int)):=by omega
 have hcc:(cap:Int)<(n:Int)+1:=by omega
 have hw1:IntKind.i64.wrap ((i:Int)+1)=(i:Int)+1:=Gr _ (by omega);have hw2:IntKind.i64.wrap ((n:Int)+1)=(n:Int)+1:=Gr _ (by omega);have hw3:IntKind.i64.wrap ((n:Int)+1-(i:Int))=(n:Int)+1-(i:Int):=Gr _ (by omega);have htn:((i:Int)+1).toNat=i+1:=by omega
 have hb1:(0:Int)≤(i:Int)+1:=by omega
 have hb4:¬(cap=i):=by omega
 have hin2:i≤n:=by omega
 have hb3:(i:Int)≤(n:Int)+1:=by omega
 have hb5:i≤n+1:=by omega
 go_enter Tryz.func123,Tryz.ntmps123;go_upto_region 10 with (show wpList _ _ _ (⟨some 40,_,_,_,_,_⟩::_) _ _;refine di _ rfl _ _ 55 3 rfl 26 i0 _ 1 24 Tryz.underlying55 Tryz.underlying3 HI.out.1 HI.out.2.1 HI.out.2.2.1 HI.out.2.2.2 rfl qL ⟨g,0,none⟩ i cap rfl _ (by rw [F0,xU.out];omega) yE.out (fun u hu=>xG.out u (Gf hu)) (n+1-i) (by simp [Act.eval];omega) (by omega) (by omega) (by unfold maxLen;omega) (by omega) HS.out ?_;intro w2 g2 cap2 zs hzs hcap2 h2;rw [show i+(n+1-i)=n+1 by omega]at h2 hcap2;have H2:=FH h2;have Eu:=FH hzs;clear h2 hzs)
 obtain⟨cur,h1,_,hcm2,hcz,hct,hc2,hcl⟩:=H2.out.own_row;have hrx:=bC (size:=1) (n:=1) (h1.blk 2 rfl) (by simpa using yr.out) (by unfold maxLen;omega);have hg1:¬(cap2=i):=by omega
 have hg2:¬(cap2=i+1):=by omega
 have H1:=FH h1;have zF:=FH hrx;have yO:=FH hct;have yA:=FH hcm2;clear h1 hrx hct hc2 hcl H2 yE HI HS;unfold maxLen at hcm2;go_upto_region 11 with (show wpList _ _ _ (⟨some 45,_,_,_,_,_⟩::_) _ _;refine bE _ rfl _ _ 55 55 rfl 26 1 Tryz.underlying55 (fun w=>Tryz.sizeOf26 w) g2 _ _ _ rfl _ H1.out _ _ 1 _ xc rfl zF.out (by omega) (by rw [FS (by simp [yr.out])]) (by omega) (by simpa using hx1) ?_;intro w3 h3;have wI:=FH h3;clear h3)
 have hlen2:=cQ cur i xc (by rw [yr.out];omega);have hrd1:Rd w3.drew 1 (.slice (some ⟨g,i,none⟩) (n-i) (cap-i)) (n-i) (xs.drop (i*1)):=by
  refine⟨by rw [Ga,xU.out];omega,by unfold maxLen;omega,_,_,rfl,by omega,by unfold maxLen;omega,(fun h=>by cases h),.inr ⟨g,_,rfl,fun j u hu=>?_⟩⟩;rw [List.getElem?_drop]at hu;have:=(wI.out.own 1 rfl).cells _ u hu
  simpa using this
 have wO:=FH wI.out.drew;have wQ:=FH hrd1;have yl:=FH hlen2;have xF:=FH (show(xs.drop (i*1)).take ((n-i)*1)=xs.drop (i*1) by rw [FS (by rw [Ga,xU.out];omega)]);have xz:=FH (show ∀u∈xs.drop (i*1),u.oneCell'=true from fun u hu=>xG.out u (Gd hu));clear hrd1 hlen2 H1 zF wI;refine aH [rq 0 8,rq 1 8,rq 2 8,rq 3 8,rq 4 8,rq 5 8,rq 6 8,rq 7 8,(8,true,0)] ?_;iterate 8 (refine ae rfl rfl fun K hK=>?_;go_simp;apply hK;clear hK K)
 refine af rfl ?_;refine bE _ rfl _ _ 55 55 rfl 26 1 Tryz.underlying55 (fun w=>Tryz.sizeOf26 w) g2 _ _ _ rfl _ wO.out _ _ (n-i) _ (xs.drop (i*1)) rfl wQ.out (by omega) xF.out (by rw [yl.out];omega) xz.out ?_;intro w5 h5;have wT:=FH (h5.swap.drop);have H5:=FH h5;clear h5 wO wQ xz wT;refine wpList_nil ?_;apply And.intro
 ·go_simp
 refine ag ?_;go_wp2_with fail;go_ret;have hrow:=H5.out.row_own (n:=n+1) (cap:=cap2) (size:=1) (xs:=ys) (by omega) yA.out (by rw [cQ _ _ _ (by rw [yl.out,Ga,xU.out];omega),yl.out];exact hcz) ?_ ?_
 ·exact⟨_,rfl,hrow.swap.drop⟩
 ·have o1:(i+1)=i*1+1:=by omega
  have o3:(n+1)*1=n*1+1:=by omega
  have hct':=yO.out;rw [o3]at hct';have e:=im cur xs xc zs (i*1) 1 (n*1) hct' xU.out (by omega) yr.out;rw [yp.out,o3,o1]
  first|exact e|(simp only [Nat.mul_one]at e ⊢;exact e)
 ·intro u hu
  rw [yp.out]at hu;rcases F2.1 hu with hu|hu
  ·rcases F2.1 hu with hu|hu
   ·exact xG.out u (Gf hu)
   ·exact hx1 u hu
  ·exact xG.out u (Gd hu)
theorem m9 {B w:World}{D:PH}{l:List HP}{v:Value}{n i:Nat}{xs xc:List Value}(hin:i≤n)(hxc:xc.length=1)(hx1:∀u∈xc,u.oneCell'=true)(bx:Nat)(hb:(n+1)*24≤140737488355328)
  (hs:Sat B D w (aD 26 1 v n xs::blk bx xc.toArray 26::l)) :
  Calls Tryz.prog 123 #[v,.int .i64 i,.slice (some ⟨bx,0,none⟩) 1 1] w fun e w'=>∃v',e = .returned v'∧Sat B D w' (aD 26 1 v' (n+1) (xs.take (i*1)++xc++xs.drop (i*1))::blk bx xc.toArray 26::l):=by
 have hxl:=(hs.own 0 rfl).1;by_cases h:i=n
 ·subst h
  have:=mz hxc hx1 bx hb hs;rw [FS (by omega),Gk (by omega),List.append_nil];exact this
 ·obtain⟨g,cap,rfl,hnc,hcm⟩:=(hs.own 0 rfl).form (by omega)
  by_cases hroom:n+1≤cap
  ·exact kY rfl (by omega) hroom hxc hx1 bx hs
  ·exact ld rfl (by omega) (by omega) hxc hx1 bx hb hs
end Go.Proofs.YtdobimafhbfkhaaGreat
