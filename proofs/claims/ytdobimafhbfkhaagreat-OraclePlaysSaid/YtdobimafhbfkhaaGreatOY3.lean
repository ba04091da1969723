/- Of no program: append of zeros, copy, clear and slices.overlaps over what is owned, and what follows. -/
import Derived.Test.YtdobimafhbfkhaaGreatOY2
import Derived.Deep.AppendSrc
import Derived.Laws.CopyRow
import Derived.Lib.Overlaps
import Derived.Deep.MidRow
set_option maxHeartbeats 64000000
namespace Go.Proofs.YtdobimafhbfkhaaGreat
open Go.ChangeShapes Go.WideShapes Go.ChangeAt Go.RowKit
section
variable {P : Program} {B w w' : World} {D : PH} {l : List HP} {e : TypeId} {size n cap g : Nat} {xs : List Value}
theorem Sat.own_row (hs:Sat B D w (aD e size (.slice (some ⟨g,0,none⟩) n cap) n xs::l)):∃cur:List Value,Sat B D w (Proofs.YtdobimafhbfkhaaGreat.blk g cur.toArray e::l)∧n≤cap∧cap≤maxLen∧cap*size≤cur.length∧cur.take (n*size)=xs∧(∀u∈xs,u.oneCell'=true)∧xs.length=n*size:=by
 rcases (hs.own 0 rfl).2.2 with ⟨h1,_⟩|⟨g',cap',cur,hv,hh,h1,h2,h3,h4⟩
 ·cases h1
 ·cases hv
  refine⟨cur.toList,?_,h1,h2,by simpa using h3,h4,(hs.own 0 rfl).2.1,(hs.own 0 rfl).1⟩;rw [Array.toArray_toList];refine hs.step fun k1 le hA=>⟨(Kept.refl (fun _=>False) _).mono (fun _ _ h=>h.elim),k1,le,?_,fun b o hb=>.inl (by rw [hb];simp)⟩;rcases hA.2.2 with ⟨h5,_⟩|⟨g2,cap2,cur2,h5,h6,_⟩
  ·cases h5
  ·cases h5
   have:=le _ _ h6;unfold aB at this;rw [hh]at this;cases this;exact h6
theorem Sat.row_own {cur:List Value}(hs:Sat B D w (Proofs.YtdobimafhbfkhaaGreat.blk g cur.toArray e::l))(hn:n≤cap)(hc:cap≤maxLen)(hz:cap*size≤cur.length)(hx:cur.take (n*size)=xs)(h1:∀u∈xs,u.oneCell'=true):Sat B D w (aD e size (.slice (some ⟨g,0,none⟩) n cap) n xs::l):=by
 refine hs.weaken fun h hb=>⟨?_,h1,.inr ⟨g,cap,cur.toArray,rfl,hb,hn,hc,by simpa using hz,by simpa using hx⟩⟩;rw [←hx,F0];have:n*size≤cap*size:=Nat.mul_le_mul_right _ hn;omega
theorem Sat.setRow {cur:List Value}(hs:Sat B D w (Proofs.YtdobimafhbfkhaaGreat.blk g cur.toArray e::l))(new:List Value):Sat B D (w.setRow g new.toArray) (Proofs.YtdobimafhbfkhaaGreat.blk g new.toArray e::l) :=
 hs.step fun h1 le hA=>⟨⟨rfl,rfl,rfl,by simp [World.setRow],fun k _ hk=>setRow_other w g k _ (fun e=>hk (by rw [e,hA];simp))⟩,one g (.cells new.toArray e),rf (setRow_heap w g cur.toArray new.toArray e (0,0) (le _ _ hA)),ik _ _,fun b' o h=>.inl (by rw [jZ h,hA];simp)⟩
def lay (L:List Value)(off:Nat)(cs:List Value):List Value:=L.take off++cs++L.drop (off+cs.length)
theorem cQ (L:List Value)(off:Nat)(cs:List Value)(h:off+cs.length≤L.length):(lay L off cs).length=L.length:=by
 unfold lay;simp;omega
theorem jt (cur xs xc:List Value)(p z N:Nat)(hct:cur.take N=xs)(hp:p≤N)(hx:xc.length=z)(hl:N+z≤cur.length) :
  (lay (lay cur (p+z) (xs.drop p)) p xc).take (N+z)=xs.take p++xc++xs.drop p:=by
 have hxl:xs.length=N:=by rw [←hct,F0];omega
 have hd:(xs.drop p).length=N-p:=by rw [Ga,hxl]
 have h1:(lay cur (p+z) (xs.drop p)).take p=xs.take p:=by
  unfold lay;rw [FU,F9 (by rw [F0];omega),List.take_take,Nat.min_eq_left (by omega),←hct,List.take_take,Nat.min_eq_left hp]
 have h2:(lay cur (p+z) (xs.drop p)).drop (p+z)=xs.drop p++cur.drop (p+z+(N-p)):=by
  unfold lay;rw [FU,List.drop_append_of_le_length (by rw [F0];omega),List.drop_eq_nil_of_le (by rw [F0];omega),List.nil_append,hd]
 have h3:lay (lay cur (p+z) (xs.drop p)) p xc=(xs.take p++xc++xs.drop p)++cur.drop (p+z+(N-p)):=by
  conv=>lhs;unfold lay
  rw [hx];have h2':=h2;unfold lay at h1 h2';rw [h1,h2'];simp
 have h4:(xs.take p++xc++xs.drop p).length=N+z:=by simp [hxl,hx];omega
 rw [h3,F9 (by omega),FS (by omega)]
theorem im (cur xs xc zs:List Value)(p z N:Nat)(hct:cur.take (N+z)=xs.take p++zs)(hxl:xs.length=N)(hp:p≤N)(hx:xc.length=z) :
  (lay (lay cur p xc) (p+z) (xs.drop p)).take (N+z)=xs.take p++xc++xs.drop p:=by
 have hd:(xs.drop p).length=N-p:=by rw [Ga,hxl]
 have h0:cur.take p=xs.take p:=by
  have:=congrArg (List.take p) hct;rw [List.take_take,Nat.min_eq_left (by omega),F9 (by rw [F0];omega),List.take_take,Nat.min_self]at this;exact this
 have hp':(xs.take p).length=p:=by rw [F0];omega
 have h1:lay cur p xc=xs.take p++xc++cur.drop (p+z):=by unfold lay;rw [h0,hx]
 have h2:(lay cur p xc).take (p+z)=xs.take p++xc:=by
  rw [h1,F9 (by simp [hx];omega),FS (by simp [hx];omega)]
 have h4:(xs.take p++xc++xs.drop p).length=N+z:=by simp [hxl,hx];omega
 conv=>lhs;unfold lay
 have h2':=h2;unfold lay at h2';rw [h2',F9 (by omega),FS (by omega)]
theorem px (w:World)(dT sT ty elem:TypeId)(size:Nat)(g o dLen dCap:Nat)(x:Value)(m n':Nat)(cur:Array Value)(t:TypeId)(news:List Value)
  (hu:P.underlying dT=some (.slice elem)) (hsz:∀w0:World,(sizeOf elem).run P w0 = .ok size w0) (hg:w.heap[g]?=some (.cells cur t (0,0))) (hrd:Rd w size x m news) (hn:n'=min m dLen) (hfit:o+n'*size≤cur.size) (h1:∀u∈news.take (n'*size),u.oneCell'=true) :
  (Builtin.copy_ #[dT,sT] ty #[.slice (some ⟨g,o,none⟩) dLen dCap,x]).run P w = .ok (goInt n') (w.setRow g (lay cur.toList o (news.take (n'*size))).toArray):=by
 obtain⟨hl,_,ao,c,rfl,_,_,_,hcell⟩:=hrd;have hmn:Nat.min m dLen=n':=hn.symm;have hle:n'*size≤m*size:=Nat.mul_le_mul_right _ (by omega);have hlen:(news.take (n'*size)).length=n'*size:=by rw [F0,hl];omega
 have hst:=run_storeCells_at P g o t (news.take (n'*size)) 0 cur w hg (by rw [hlen];omega) h1;have hfc:(Builtin.firstCells size n' (.slice ao m c)).run P w = .ok (news.take (n'*size)).toArray w:=by
  rcases hcell with h0|⟨g0,o0,rfl,hc⟩
  ·have hn0:n'=0:=by omega
   subst hn0;cases ao<;>simp [Builtin.firstCells,loadCells,loadCellsFrom]
  ·refine run_firstCells_some w size n' ⟨g0,o0,none⟩ m c _ hlen (fun j u hu=>?_)
   rw [ew];rw [List.getElem?_take]at hu;split at hu
   ·exact hc j u hu
   ·cases hu
 simp only [Nat.add_zero]at hst;simp [Builtin.copy_,run_underlying hu,Builtin.lenOf,hsz,hmn,hfc,hst,lay]
theorem bE (w:World){ops:Array Oper}{rest:List Oper}{o:Oper}{a:Act}{Q:Exit→Act→World→Prop}(hgd:o.guard=none)(d s:Operand)(dT sT:TypeId)
  (ho:o.op = .call { callee:=.builtin .copy,args:=#[d,s],argTypes:=#[dT,sT] }) (elem:TypeId) (size:Nat) (hu:P.underlying dT=some (.slice elem)) (hsz:∀w0:World,(sizeOf elem).run P w0 = .ok size w0)
  (g off dLen dCap:Nat) (hd:a.eval d = .slice (some ⟨g,off,none⟩) dLen dCap) (cur:List Value) (hs:Sat B D w (blk g cur.toArray e::l)) (x:Value) (m n':Nat) (news cs:List Value) (hx:a.eval s=x) (hrd:Rd w size x m news) (hn:n'=min m dLen)
  (hcs:news.take (n'*size)=cs) (hfit:off+n'*size≤cur.length) (h1:∀u∈cs,u.oneCell'=true)
  (h:∀w',Sat B D w' (blk g (lay cur off cs).toArray e::l)→wpList P ops Q rest (a.put o.dst (goInt n')) w'):wpList P ops Q (o::rest) a w:=by
 refine wpList_plain hgd fun K hK=>?_;have hrun:=px (P:=P) w dT sT o.type elem size g off dLen dCap x m n' cur.toArray e news hu hsz hs.heap_blk hrd hn (by simpa using hfit) (by rw [hcs];exact h1);subst hcs;unfold Oper.wp;simp [execOp,ho,resolve,invoke,builtin,hd,hx,hrun,Result.andThen];exact hK _ _ (h _ (by simpa using hs.setRow _))
theorem nh (w:World)(t ty elem:TypeId)(z:Value)(g o n c:Nat)(cur:Array Value)(t':TypeId)(hu:P.underlying t=some (.slice elem))(hz:∀w0:World,(zeroValue elem).run P w0 = .ok z w0)
  (hg:w.heap[g]?=some (.cells cur t' (0,0))) (hn:0<n) (hfit:o+(Builtin.zeroCells z.cells n).size≤cur.size) (h1:∀u∈(Builtin.zeroCells z.cells n).toList,u.oneCell'=true) :
  (Builtin.clear_ #[t] ty #[.slice (some ⟨g,o,none⟩) n c]).run P w = .ok (.tuple #[]) (w.setRow g (lay cur.toList o (Builtin.zeroCells z.cells n).toList).toArray):=by
 have hst:=run_storeCells_at P g o t' (Builtin.zeroCells z.cells n).toList 0 cur w hg (by simpa using hfit) h1;obtain⟨m,rfl⟩:∃m,n=m+1:=⟨n-1,by omega⟩;simp only [Nat.add_zero]at hst;simp [Builtin.clear_,run_underlying hu,hz,hst,lay]
theorem cU (w:World){ops:Array Oper}{rest:List Oper}{o:Oper}{a:Act}{Q:Exit→Act→World→Prop}(hgd:o.guard=none)(d:Operand)(dT:TypeId)
  (ho:o.op = .call { callee:=.builtin .clear,args:=#[d],argTypes:=#[dT] }) (elem:TypeId) (z:Value) (hu:P.underlying dT=some (.slice elem)) (hz:∀w0:World,(zeroValue elem).run P w0 = .ok z w0)
  (g off n c:Nat) (hd:a.eval d = .slice (some ⟨g,off,none⟩) n c) (cur:List Value) (hs:Sat B D w (blk g cur.toArray e::l)) (hn:0<n) (hfit:off+(Builtin.zeroCells z.cells n).size≤cur.length) (h1:∀u∈(Builtin.zeroCells z.cells n).toList,u.oneCell'=true)
  (h:∀w',Sat B D w' (blk g (lay cur off (Builtin.zeroCells z.cells n).toList).toArray e::l)→wpList P ops Q rest (a.put o.dst (.tuple #[])) w'):wpList P ops Q (o::rest) a w:=by
 refine wpList_plain hgd fun K hK=>?_;have hrun:=nh (P:=P) w dT o.type elem z g off n c cur.toArray e hu hz hs.heap_blk hn (by simpa using hfit) h1;unfold Oper.wp;simp [execOp,ho,resolve,invoke,builtin,hd,hrun,Result.andThen];exact hK _ _ (h _ (by simpa using hs.setRow _))
theorem fZ {z:Array Value}(hz1:∀u∈z.toList,u.oneCell'=true)(k:Nat):∀u∈(Builtin.zeroCells z k).toList,u.oneCell'=true:=by
 intro u hu;simp only [Builtin.zeroCells,Array.toList_map,List.mem_map]at hu;obtain⟨j,hj,rfl⟩:=hu;have hj':j<k*z.size:=by simpa using hj
 have hpos:0<z.size:=by rcases Nat.eq_zero_or_pos z.size with h|h;rw [h]at hj';omega;exact h
 have hlt:j%z.size<z.size:=Nat.mod_lt _ hpos;rw [getElem!_pos z _ hlt];exact hz1 _ (by simp)
theorem kq (w:World)(t tx ty e:TypeId)(i:TypeInfo)(z:Value)(ht:P.underlying t=some (.slice e))(htx:P.underlying tx=some (.int .i64))(hi:P.info? e=some i)(hz:i.zero=some z)
  (b:Addr) (sLen sCap:Nat) (olds:List Value) (hlo:olds.length=sLen*i.size) (holds:∀j v,olds[j]?=some v→w.cell? (b.add j)=some v)
  (k:Nat) (hk:0<k*i.size) (hg:sCap<sLen+k) (h63:((sLen+k:Nat):Int)≤9223372036854775807) (hkb:k*i.bytes≤281474976710656) (hfit:Builtin.nextslicecap (sLen+k) sCap*i.bytes≤281474976710656) :
  (Builtin.append_ #[t,tx] ty #[.slice (some b) sLen sCap,.int .i64 k]).run P w =
   .ok (.slice (some ⟨w.heap.size,0,none⟩) (sLen+k) (grownCap w (sLen+k) sCap e))
    (w.drew.alloc (.cells ((olds.toArray++Builtin.zeroCells z.cells k)++Builtin.zeroCells z.cells (grownCap w (sLen+k) sCap e-(sLen+k))) e)):=by
 have hn:¬(sLen+k≤sCap):=by omega
 have h63':¬(9223372036854775807<((sLen:Int)+(k:Int))):=by omega
 have h48':¬(281474976710656<Builtin.nextslicecap (sLen+k) sCap*i.bytes):=by omega
 have hw:IntKind.i64.wrap (k:Int)=k:=Gr _ (by omega);have hk0:k*i.size≠0:=by omega
 have hneg:¬((k:Int)<0):=by omega
 have hkb':¬((281474976710656:Int)<(k:Int)*(i.bytes:Int)):=by rw [←Int.natCast_mul];omega
 have hfc:=run_firstCells_some (P:=P) w.drew i.size sLen b sLen sCap olds hlo (by simpa using holds);simp [Builtin.append_,run_underlying ht,run_underlying htx,sizeOf,typeInfo,zeroValue,hi,hz,asInt,asIntOf,hw,hn,h63',h48',hkb',hk0,hneg,Question.forced,hfc,newRow,grownCap]
theorem Sat.own_fresh {cs:Array Value}(hs:Sat B D w l)(hn:n≤cap)(hc:cap≤maxLen)(hz:cap*size≤cs.size)(hx:cs.toList.take (n*size)=xs)(h1:∀u∈xs,u.oneCell'=true):Sat B D (w.alloc (.cells cs e)) (aD e size (.slice (some ⟨w.heap.size,0,none⟩) n cap) n xs::l):=by
 have h:=hs.alloc cs e;rw [←Array.toArray_toList (xs:=cs)]at h;exact Sat.row_own (by simpa using h) hn hc (by simpa using hz) hx h1
theorem di (w:World){ops:Array Oper}{rest:List Oper}{o:Oper}{a:Act}{Q:Exit→Act→World→Prop}(hgd:o.guard=none)(s x:Operand)(t tx:TypeId)
  (ho:o.op = .call { callee:=.builtin .append,args:=#[s,x],argTypes:=#[t,tx] }) (e:TypeId) (i:TypeInfo) (z:Value) (size bytes:Nat) (ht:P.underlying t=some (.slice e)) (htx:P.underlying tx=some (.int .i64)) (hi:P.info? e=some i) (hz:i.zero=some z)
  (hsize:i.size=size) (hby:i.bytes=bytes) (hzs:z.cells.size=size) (hz1:∀u∈z.cells.toList,u.oneCell'=true)
  (b:Addr) (sLen sCap:Nat) (hs:a.eval s = .slice (some b) sLen sCap) (olds:List Value) (hlo:olds.length=sLen*size) (holds:∀j v,olds[j]?=some v→w.cell? (b.add j)=some v) (ho1:∀u∈olds,u.oneCell'=true)
  (k:Nat) (hx:a.eval x = .int .i64 k) (hk:0<k*size) (hg:sCap<sLen+k) (h63:sLen+k≤maxLen) (hb:(sLen+k)*bytes≤140737488355328) (hsat:Sat B D w l)
  (h:∀w' g2 cap2 zs,zs.length=k*size→sLen+k≤cap2→Sat B D w' (aD e size (.slice (some ⟨g2,0,none⟩) (sLen+k) cap2) (sLen+k) (olds++zs)::l)→wpList P ops Q rest (a.put o.dst (.slice (some ⟨g2,0,none⟩) (sLen+k) cap2)) w'):wpList P ops Q (o::rest) a w:=by
 subst hsize hby;have h63':sLen+k≤9223372036854775807:=by unfold maxLen at h63;omega
 have hkb:k*i.bytes≤(sLen+k)*i.bytes:=Nat.mul_le_mul_right _ (by omega);have hrun:=kq (P:=P) w t tx o.type e i z ht htx hi hz b sLen sCap olds hlo holds k hk hg (by omega) (by omega) (growslice_fits hg hb);refine wpList_plain hgd fun K hK=>?_;unfold Oper.wp execOp;simp only [ho,resolve,invoke,builtin,Sem.run_bind,Sem.run_pure,Result.andThen_ok,List.map_toArray,List.map_cons,List.map_nil,hs,hx,hrun];refine hK _ _ (h _ _ _ (Builtin.zeroCells z.cells k).toList (by simp [size_zeroCells,hzs]) (grownCap_ge w (sLen+k) sCap e) ?_);have hsz:(Builtin.zeroCells z.cells k).size=k*i.size:=by rw [size_zeroCells,hzs]
 have hm:∀k,∀u∈(Builtin.zeroCells z.cells k).toList,u.oneCell'=true:=by
  intro k u hu;simp only [Builtin.zeroCells,Array.toList_map,List.mem_map]at hu;obtain⟨j,hj,rfl⟩:=hu;have hj':j<k*z.cells.size:=by simpa using hj
  have hpos:0<z.cells.size:=by rcases Nat.eq_zero_or_pos z.cells.size with h|h;rw [h]at hj';omega;exact h
  have hlt:j%z.cells.size<z.cells.size:=Nat.mod_lt _ hpos;rw [getElem!_pos z.cells _ hlt];exact hz1 _ (by simp)
 refine(Sat.own_fresh (w:=w.drew) hsat.drew (grownCap_ge w (sLen+k) sCap e) (grownCap_le_maxLen w (sLen+k) sCap e h63) ?_ ?_ ?_)
 ·simp only [Array.size_append,List.size_toArray,hlo,size_zeroCells,hzs,←Nat.add_mul]
  rw [show sLen+k+(grownCap w (sLen+k) sCap e-(sLen+k))=grownCap w (sLen+k) sCap e by have:=grownCap_ge w (sLen+k) sCap e;omega];exact Gn _
 ·rw [Array.toList_append,F9 (by simp [hlo,size_zeroCells,hzs,Nat.add_mul])]
  rw [FS (by simp [hlo,size_zeroCells,hzs,Nat.add_mul])];simp
 ·intro u hu
  rcases F2.1 hu with hu|hu
  ·exact ho1 u hu
  ·exact hm k u hu
theorem jo (w:World)(t ty e:TypeId)(i:TypeInfo)(size:Nat)(ht:P.underlying t=some (.slice e))(hi:P.info? e=some i)(hsize:i.size=size)
  (hown:Own w e size (.slice (some ⟨g,0,none⟩) n cap) n xs) (x:Value) (m:Nat) (news:List Value) (hx:Rd w size x m news) (h1:∀u∈news,u.oneCell'=true) (hroom:n+m≤cap) :
  ∃w',(Builtin.append_ #[t,t] ty #[.slice (some ⟨g,0,none⟩) n cap,x]).run P w = .ok (.slice (some ⟨g,0,none⟩) (n+m) cap) w'∧Own w' e size (.slice (some ⟨g,0,none⟩) (n+m) cap) (n+m) (xs++news)∧Kept (fun k=>some g=some k) w w':=by
 subst hsize;obtain⟨hl,_,ao,c,rfl,_,_,_,hcell⟩:=hx;by_cases hm:m=0
 ·subst hm
  have hn:news = []:=List.eq_nil_of_length_eq_zero (by simpa using hl);subst hn;rw [Nat.add_zero,List.append_nil];exact⟨w,fd w t ty e i ht hi _ ao n cap c (by omega),hown,Kept.refl _ _⟩
 ·rcases hcell with h0|⟨g0,o0,rfl,hc⟩
  ·exact absurd h0 hm
  ·have hxl:=hown.1
   rcases hown.2.2 with ⟨h2,_⟩|⟨g',cap',cur,hv,hg,hnc,hcm,hcs,htake⟩
   ·cases h2
   ·cases hv
    have hle:(n+m)*i.size≤cap*i.size:=Nat.mul_le_mul_right _ hroom;have hlen:(xs++news).length=(n+m)*i.size:=by rw [FR,hxl,hl,Nat.add_mul]
    have hfit:n*i.size+news.length≤cur.size:=by rw [hl,←Nat.add_mul];omega
    have hr:=run_append_room (P:=P) w t ty e i ht hi g n cap cur hg ⟨g0,o0,none⟩ m c news hl (fun j u hu=>by rw [ew];exact hc j u hu) h1 hroom hfit;refine⟨_,hr,⟨hlen,fun u hu=>(F2.1 hu).elim (hown.2.1 u) (h1 u),.inr ⟨g,cap,_,rfl,setRow_heap w g cur _ e _ hg,hroom,hcm,?_,?_⟩⟩,⟨rfl,rfl,rfl,by simp [World.setRow],fun k _ hk=>setRow_other w g k _ (fun e=>hk (by rw [e]))⟩⟩
    ·simp only [List.size_toArray,FR,F0,Ga,Array.length_toList]
     omega
    ·rw [htake,←hlen]
     exact List.take_left
theorem bX (w:World){ops:Array Oper}{rest:List Oper}{o:Oper}{a:Act}{Q:Exit→Act→World→Prop}(hgd:o.guard=none)(s x:Operand)(t:TypeId)
  (ho:o.op = .call { callee:=.builtin .append,args:=#[s,x],argTypes:=#[t,t] }) (e:TypeId) (i:TypeInfo) (size:Nat) (ht:P.underlying t=some (.slice e)) (hi:P.info? e=some i) (hsize:i.size=size)
  (g n cap:Nat) (xs:List Value) (hv:a.eval s = .slice (some ⟨g,0,none⟩) n cap) (hs:Sat B D w (aD e size (.slice (some ⟨g,0,none⟩) n cap) n xs::l)) (xv:Value) (m:Nat) (news:List Value) (hx:a.eval x=xv) (hrd:Rd w size xv m news) (h1:∀u∈news,u.oneCell'=true) (hroom:n+m≤cap)
  (h:∀w',Sat B D w' (aD e size (.slice (some ⟨g,0,none⟩) (n+m) cap) (n+m) (xs++news)::l)→wpList P ops Q rest (a.put o.dst (.slice (some ⟨g,0,none⟩) (n+m) cap)) w'):wpList P ops Q (o::rest) a w:=by
 obtain⟨w',hr,h2,h3⟩:=jo (P:=P) w t o.type e i size ht hi hsize (hs.own 0 rfl) xv m news hrd h1 hroom;refine wpList_plain hgd fun K hK=>?_;unfold Oper.wp execOp;simp only [ho,resolve,invoke,builtin,Sem.run_bind,Sem.run_pure,Result.andThen_ok,List.map_toArray,List.map_cons,List.map_nil,hv,hx,hr];exact hK _ _ (h w' (hs.own_step h3 h2 (.inl rfl)))
end
end Go.Proofs.YtdobimafhbfkhaaGreat
namespace Go.Proofs.YtdobimafhbfkhaaGreat
open Go.ChangeShapes Go.WideShapes Go.ChangeAt Go.RowKit
set_option maxRecDepth 100000
set_option linter.unusedSimpArgs false
structure Val where
 t:Bool
 n:Int
 s:ByteArray
deriving DecidableEq
instance : Inhabited Val:=⟨⟨false,0,⟨#[]⟩⟩⟩
def Val.cells (v:Val):List Value:=[.bool v.t,.int .i64 v.n,.string v.s]
def Val.wf (v:Val):Prop:=(Lit.int .i64 v.n).wf=true∧v.s.size≤maxLen
theorem Val.len (v:Val):v.cells.length=3:=rfl
theorem Val.one (v:Val):∀u∈v.cells,u.oneCell'=true:=by intro u hu;simp [Val.cells]at hu;rcases hu with rfl|rfl|rfl<;>rfl
abbrev Val.v (x:Val):Value:=.agg #[.bool x.t,.int .i64 x.n,.string x.s]
def eC (a1:Bool)(a2:Int)(a3:ByteArray)(b1:Bool)(b2:Int)(b3:ByteArray):Bool:=decide ((⟨a1,a2,a3⟩:Val)=⟨b1,b2,b3⟩)
theorem jz (a b:Val):eC a.t a.n a.s b.t b.n b.s=decide (a=b):=rfl
@[go_sem] theorem valEqB_same (a1:Bool)(a2:Int)(a3:ByteArray):eC a1 a2 a3 a1 a2 a3=true:=by simp [eC]
theorem mU (a b:ByteArray):(a.toList == b.toList)=decide (a=b):=by
 rw [ByteArray.toList_eq,ByteArray.toList_eq];by_cases h:a=b
 ·subst h;simp
 ·rw [FY h]
  have:a.data.toList≠b.data.toList:=fun e=>h (by obtain⟨⟨x⟩⟩:=a;obtain⟨⟨y⟩⟩:=b;simp at e;subst e;rfl)
  simpa using this
theorem kN (w:World)(a1:Bool)(a2:Int)(a3:ByteArray)(b1:Bool)(b2:Int)(b3:ByteArray) :
  (Op.equalIn 10000 24 (.agg #[.bool a1,.int .i64 a2,.string a3]) (.agg #[.bool b1,.int .i64 b2,.string b3])).run Tryz.prog w = .ok (eC a1 a2 a3 b1 b2 b3) w:=by
 have hst:Tryz.prog.stoodInHeld 24=false:=by kernel_rfl
 have hu:=Tryz.underlying24;have hf:Tryz.prog.underlying 24=some (.struct (Tryz.prog.fieldsOf 24)):=by unfold Program.fieldsOf;rw [hu]
 rw [show(10000:Nat)=9999+1 from rfl,run_equalIn_struct w 9999 _ _ _ hf hst];unfold Program.fieldsOf;rw [hu];have e1:=run_equalIn_bool' (P:=Tryz.prog) w 9998 4 a1 b1 Tryz.underlying4;have e2:=run_equalIn_int (P:=Tryz.prog) w 9998 2 .i64 .i64 a2 b2 Tryz.underlying2;have e3:=run_equalIn_string (P:=Tryz.prog) w 9998 9 a3 b3 Tryz.underlying9;rw [mU]at e3;unfold eC;by_cases h1:a1=b1
 ·subst h1
  by_cases h2:a2=b2
  ·subst h2
   by_cases h3:a3=b3
   ·subst h3
    simp [Op.eqFields,part,isAgg,run_underlying Tryz.underlying4,run_underlying Tryz.underlying2,run_underlying Tryz.underlying9,e1,e2,e3]
   ·simp [Op.eqFields,part,isAgg,run_underlying Tryz.underlying4,run_underlying Tryz.underlying2,run_underlying Tryz.underlying9,e1,e2,e3,h3]
  ·simp [Op.eqFields,part,isAgg,run_underlying Tryz.underlying4,run_underlying Tryz.underlying2,run_underlying Tryz.underlying9,e1,e2,e3,h2]
 ·simp [Op.eqFields,part,isAgg,run_underlying Tryz.underlying4,run_underlying Tryz.underlying2,run_underlying Tryz.underlying9,e1,e2,e3,h1]
@[go_sem high] theorem run_eql_val (w:World)(a1:Bool)(a2:Int)(a3:ByteArray)(b1:Bool)(b2:Int)(b3:ByteArray) :
  (binOp .eql 24 (.agg #[.bool a1,.int .i64 a2,.string a3]) (.agg #[.bool b1,.int .i64 b2,.string b3])).run Tryz.prog w = .ok (.bool (eC a1 a2 a3 b1 b2 b3)) w:=by
 rw [run_eql_struct,kN];rfl
@[go_sem high] theorem run_neq_val (w:World)(a1:Bool)(a2:Int)(a3:ByteArray)(b1:Bool)(b2:Int)(b3:ByteArray) :
  (binOp .neq 24 (.agg #[.bool a1,.int .i64 a2,.string a3]) (.agg #[.bool b1,.int .i64 b2,.string b3])).run Tryz.prog w = .ok (.bool (!eC a1 a2 a3 b1 b2 b3)) w:=by
 rw [run_neq_struct,kN];rfl
def js (a b:Int):Int:=if a<b then -1 else if b<a then 1 else 0
def eM (a b:ByteArray):Int:=if Op.bytesLess a.toList b.toList then -1 else if a.toList == b.toList then 0 else 1
def ai (a b:Val):Int:=if a.t&&b.t then eM a.s b.s else if a.t then 1 else if b.t then -1 else js a.n b.n
theorem nanI (a:Int)(w:World):Calls Tryz.prog 131 #[.int .i64 a] w fun e w'=>e = .returned (.bool false)∧w=w':=by
 go_enter Tryz.func131,Tryz.ntmps131;go_wp2_with fail;go_ret;exact⟨by simp,rfl⟩
theorem nanS (a:ByteArray)(w:World):Calls Tryz.prog 130 #[.string a] w fun e w'=>e = .returned (.bool false)∧w=w':=by
 go_enter Tryz.func130,Tryz.ntmps130;go_wp2_with fail;go_ret;exact⟨by simp,rfl⟩
theorem cmpI_ok (a b:Int)(w:World):Calls Tryz.prog 118 #[.int .i64 a,.int .i64 b] w fun e w'=>e = .returned (.int .i64 (js a b))∧w=w':=by
 have h3:a<b∨(¬a<b∧b<a)∨(¬a<b∧¬b<a):=by omega
 rcases h3 with h|⟨h,h'⟩|⟨h,h'⟩
 ·have e:js a b = -1:=by unfold js;rw [if_pos h]
  have E:=FH e;clear e;go_enter Tryz.func118,Tryz.ntmps118;go_wp2_with ((go_at_call 131;refine(nanI _ _).mono ?_;rintro e w' ⟨rfl,rfl⟩));go_ret;exact⟨by rw [E.out];rfl,rfl⟩
 ·have e:js a b=1:=by unfold js;rw [if_neg h,if_pos h']
  have E:=FH e;clear e;go_enter Tryz.func118,Tryz.ntmps118;go_wp2_with ((go_at_call 131;refine(nanI _ _).mono ?_;rintro e w' ⟨rfl,rfl⟩));go_ret;exact⟨by rw [E.out];rfl,rfl⟩
 ·have e:js a b=0:=by unfold js;rw [if_neg h,if_neg h']
  have E:=FH e;clear e;go_enter Tryz.func118,Tryz.ntmps118;go_wp2_with ((go_at_call 131;refine(nanI _ _).mono ?_;rintro e w' ⟨rfl,rfl⟩));go_ret;exact⟨by rw [E.out];rfl,rfl⟩
theorem cmpS_ok (a b:ByteArray)(w:World):Calls Tryz.prog 117 #[.string a,.string b] w fun e w'=>e = .returned (.int .i64 (eM a b))∧w=w':=by
 by_cases h:Op.bytesLess a.toList b.toList=true
 ·have e:eM a b = -1:=by unfold eM;rw [if_pos h]
  have E:=FH e;clear e;go_enter Tryz.func117,Tryz.ntmps117;go_wp2_with ((go_at_call 130;refine(nanS _ _).mono ?_;rintro e w' ⟨rfl,rfl⟩));go_ret;exact⟨by rw [E.out];rfl,rfl⟩
 ·have hf:Op.bytesLess a.toList b.toList=false:=by simpa using h
  by_cases h2:(a.toList == b.toList)=true
  ·have e:eM a b=0:=by unfold eM;rw [if_neg h,if_pos h2]
   have E:=FH e;clear e h;go_enter Tryz.func117,Tryz.ntmps117;go_wp2_with ((go_at_call 130;refine(nanS _ _).mono ?_;rintro e w' ⟨rfl,rfl⟩));go_ret;exact⟨by rw [E.out];rfl,rfl⟩
  ·have h3:(a.toList == b.toList)=false:=by simpa using h2
   have e:eM a b=1:=by unfold eM;rw [if_neg h,if_neg h2]
   have E:=FH e;clear e h h2;go_enter Tryz.func117,Tryz.ntmps117;go_wp2_with ((go_at_call 130;refine(nanS _ _).mono ?_;rintro e w' ⟨rfl,rfl⟩));go_ret;exact⟨by rw [E.out];rfl,rfl⟩
theorem bT (a b:Val)(w:World):Calls Tryz.prog 103 #[a.v,b.v] w fun e w'=>e = .returned (.int .i64 (ai a b))∧Kept (fun _=>False) w w':=by
 obtain⟨at_,an,as_⟩:=a;obtain⟨bt,bn,bs⟩:=b;have hk:Kept (fun _=>False) w ((w.alloc (.cells #[.bool at_,.int .i64 an,.string as_] 24)).alloc (.cells #[.bool bt,.int .i64 bn,.string bs] 24)):=((Kept.refl _ _).alloc _).alloc _;have HK:=FH hk;clear hk;cases at_<;>cases bt
 all_goals
  go_enter Tryz.func103,Tryz.ntmps103;go_wp2_with (first|(go_at_call 117;refine(cmpS_ok _ _ _).mono ?_;rintro e w' ⟨rfl,rfl⟩)|(go_at_call 118;refine(cmpI_ok _ _ _).mono ?_;rintro e w' ⟨rfl,rfl⟩));go_ret;exact⟨rfl,HK.out⟩
def am (v:Val):Bool:=if v.t then decide (v.n=0)&&decide (v.s.size≤12)else decide (v.s=⟨#[]⟩)
theorem cP (v:Val)(w:World):Calls Tryz.prog 32 #[v.v] w fun e w'=>e = .returned (.bool (am v))∧Kept (fun _=>False) w w':=by
 obtain⟨t,n,s⟩:=v;have hk:Kept (fun _=>False) w (w.alloc (.cells #[.bool t,.int .i64 n,.string s] 24)):=(Kept.refl _ _).alloc _;have HK:=FH hk;clear hk;cases t
 ·have e:eC false n s false n ⟨#[]⟩=am ⟨false,n,s⟩:=by simp [eC,am]
  have E:=FH e;clear e;go_enter Tryz.func32,Tryz.ntmps32;go_wp2_with fail;go_ret;exact⟨by rw [←E.out];rfl,HK.out⟩
 ·by_cases h:n=0
  ·subst h
   by_cases hs:(s.size:Int)≤12
   ·have E:=FH (show am ⟨true,0,s⟩=true by simp [am];omega)
    go_enter Tryz.func32,Tryz.ntmps32;go_wp2_with fail;go_ret;exact⟨by rw [E.out];rfl,HK.out⟩
   ·have E:=FH (show am ⟨true,0,s⟩=false by simp [am];omega)
    go_enter Tryz.func32,Tryz.ntmps32;go_wp2_with fail;go_ret;exact⟨by rw [E.out];rfl,HK.out⟩
  ·have hv:eC true n s true 0 s=false:=by simp [eC,h]
   have E:=FH (show am ⟨true,n,s⟩=false by simp [am,h]);go_enter Tryz.func32,Tryz.ntmps32;go_wp2_with fail;go_ret;exact⟨by rw [E.out];rfl,HK.out⟩
end Go.Proofs.YtdobimafhbfkhaaGreat
namespace Go.Proofs.YtdobimafhbfkhaaGreat
set_option linter.unusedSimpArgs false
inductive PredT where
 | mk (op col:Int) (v w:Val) (l:List PredT)
def PredT.op : PredT→Int | .mk a _ _ _ _=>a
def PredT.col : PredT→Int | .mk _ a _ _ _=>a
def PredT.v : PredT→Val | .mk _ _ a _ _=>a
def PredT.w : PredT→Val | .mk _ _ _ a _=>a
def PredT.l : PredT→List PredT | .mk _ _ _ _ a=>a
theorem PredT.ind {P:PredT→Prop}(h:∀op col v w l,(∀q∈l,P q)→P (.mk op col v w l)):∀p,P p
 | .mk op col v w l=>h op col v w l (fun q _hq=>PredT.ind h q)
termination_by p=>SizeOf.sizeOf p
decreasing_by
 have:=List.sizeOf_lt_of_mem _hq;simp only [PredT.mk.sizeOf_spec];omega
def dR (op col:Int)(v w:Val)(r:List Val):Bool :=
 if col<0∨(r.length:Int)≤col then false else
 let x:=r.getD col.toNat default
 let c:=ai x v
 if op=3 then decide (c=0)else if op=4 then !decide (c=0)else if op=5 then decide (c<0)else if op=6 then decide (c≤0)else if op=7 then decide (0<c)else if op=8 then decide (0≤c)else decide (0≤c)&&decide (ai x w≤0)
mutual
def PredT.holds : PredT→List Val→Bool
 | .mk op col v w l,r =>
  if op=1 then true else if 3≤op∧op≤9 then dR op col v w r else if op=10 then !((PredT.holdsL l r).headD false)else if op=11 then (PredT.holdsL l r).all id else if op=12 then (PredT.holdsL l r).any id else false
def PredT.holdsL : List PredT→List Val→List Bool
 | [],_=>[]
 | p::l,r=>p.holds r::PredT.holdsL l r
end
theorem mE (r:List Val):∀l:List PredT,PredT.holdsL l r=l.map (fun p=>p.holds r)
 | []=>rfl
 | p::l=>by unfold PredT.holdsL;rw [mE r l];rfl
theorem PredT.holds_eq (op col:Int)(v w:Val)(l:List PredT)(r:List Val):(PredT.mk op col v w l).holds r =
  if op=1 then true else if 3≤op∧op≤9 then dR op col v w r else if op=10 then !((l.map (fun p=>p.holds r)).headD false)else if op=11 then l.all (fun p=>p.holds r)else if op=12 then l.any (fun p=>p.holds r)else false:=by
 conv=>lhs;unfold PredT.holds
 simp only [mE,List.all_map,List.any_map]
 rfl
end Go.Proofs.YtdobimafhbfkhaaGreat
