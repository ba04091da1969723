/- A row as it is changed (row.Update). (printed by genok6.py) -/
import Derived.Test.YtdobimafhbfkhaaGreatOE12
import Derived.Test.YtdobimafhbfkhaaGreatOE14
set_option maxHeartbeats 64000000
namespace Go.Proofs.YtdobimafhbfkhaaGreat
open Go.ChangeShapes Go.WideShapes Go.ChangeAt Go.RowKit
set_option maxRecDepth 100000
set_option linter.unusedSimpArgs false
def Val.fit (v:Val):Prop:=cA v.n∧v.s.size≤maxLen
abbrev bO (r:List Val):Prop:=∀a∈r,a.fit
def RowF (D:PH)(v:Value)(r:List Val):Prop:=RowD D v r∧bO r
def SetsF (D:PH)(v:Value)(l:List SetM):Prop:=SetsAt D v l∧∀s∈l,s.v.fit
abbrev ColD (D:PH)(v:Value)(c:List Bool):Prop:=RdP D 1 v c.length (c.flatMap dq)
theorem RowF.mono {D D':PH}(le:PH.le D D'){v:Value}{r:List Val}(h:RowF D v r):RowF D' v r:=⟨h.1.mono le,h.2⟩
theorem SetsF.mono {D D':PH}(le:PH.le D D'){v:Value}{l:List SetM}(h:SetsF D v l):SetsF D' v l:=⟨RdP.mono h.1 le,h.2⟩
theorem gK (r:List Val):∀(l:List SetM) (s:SetM) (out:List Val),fL r (l ++ [s]) out=(fL r l out).bind fun o=>(toS r s).map fun v=>o.set s.col.toNat v
 | [],s,out=>by
  show(match toS r s with|none=>none|some v=>some (out.set s.col.toNat v))=(toS r s).map _
  cases toS r s<;>rfl
 | x::l,s,out=>by
  show(match toS r x with|none=>none|some v=>fL r (l ++ [s]) (out.set x.col.toNat v))=Option.bind (match toS r x with|none=>none|some v=>fL r l (out.set x.col.toNat v)) _
  cases toS r x with
  | none=>rfl
  | some v=>exact gK r l s _
theorem lW (r:List Val):∀(m l:List SetM) (out:List Val),fL r l out=none→fL r (l++m) out=none
 | [],l,out,h=>by simpa using h
 | s::m,l,out,h=>by
  have:l++s::m=(l ++ [s])++m:=by simp
  rw [this]
  exact lW r m _ out (by rw [gK,h];rfl)
theorem qr {r:List Val}{l:List SetM}{out:List Val}(n:Nat)(h:fL r (l.take n) out=none):fL r l out=none:=by
 have:=lW r (l.drop n) _ out h
 rwa [List.take_append_drop]at this
theorem cF {c:List Bool}{r:List Val}(h:bD c r=true):r.length=c.length∧cK c=true:=by unfold bD at h;simp at h;exact⟨h.1.2,h.1.1⟩
theorem iW {c:List Bool}{l:List SetM}(h:dj c l=true):l.length≤3∧∀s∈l,aW c s=true:=by unfold dj at h;simp at h;exact⟨h.1.1.2,h.1.2⟩
theorem sX {c:List Bool}{s:SetM}(h:aW c s=true):s.col<(c.length:Int):=by
 unfold aW at h
 split at h
 ·cases h
 ·next hn =>
  have h2:¬az c s.col=0:=fun e=>hn (.inr e)
  have h3:¬(s.col<0∨(c.length:Int)≤s.col):=fun e=>h2 (by unfold az;rw [if_pos e])
  omega
theorem updT_1 {c:List Bool}{r:List Val}{l:List SetM}(h:bD c r=false):cB c r l=([],1):=by unfold cB;rw [h];rfl
theorem rk {c:List Bool}{r:List Val}{l:List SetM}(h:bD c r=true)(h2:dj c l=false):cB c r l=([],20):=by unfold cB;rw [h,(cF h).2,h2];rfl
theorem ri {c:List Bool}{r:List Val}{l:List SetM}(h:bD c r=true)(h2:dj c l=true)(h3:fL r l r=none):cB c r l=([],21):=by unfold cB;rw [h,(cF h).2,h2,h3];rfl
theorem sU {c:List Bool}{r o:List Val}{l:List SetM}(h:bD c r=true)(h2:dj c l=true)(h3:fL r l r=some o):cB c r l=(o,0):=by unfold cB;rw [h,(cF h).2,h2,h3];rfl
theorem sd {c:List Bool}{l:List SetM}(h:cK c=true):dX c l=if dj c l then 0 else 20:=by unfold dX;rw [h];rfl
theorem pR {r:List Val}{s:SetM}(hr:bO r)(hs:s.v.fit):(toV r s).fit:=by
 unfold toV
 split
 ·exact hs
 ·split
  ·unfold eK
   rw [List.getD_eq_getElem?_getD]
   cases h:r[s.frm.toNat]? with
   | none=>exact⟨show cA 0 by simp [cA],Nat.zero_le _⟩
   | some x=>exact hr x (List.mem_of_getElem? h)
  ·refine⟨?_,Nat.zero_le _⟩
   unfold gF db
   show cA (if fQ _=true then _ else 0)
   split
   ·next h=>exact kX.1 h
   ·simp [cA]
theorem pP {r:List Val}{i:Nat}{v:Val}(h:bO r)(hv:v.fit):bO (r.set i v):=fun a ha=>(List.mem_or_eq_of_mem_set ha).elim (h a) (fun e=>e▸hv)
def UpdGot (B:World)(D:PH)(l:List HP)(x:List Val×Int)(e:Ending)(w':World):Prop:=∃v',e = .returned (.tuple #[v',.int .i64 x.2])∧bO x.1∧Sat B D w' (aC tV 3 v' x.1.length (x.1.flatMap Val.cells)::l)
theorem pZ {B w:World}{D:PH}{l:List HP}{cv rv sv:Value}{c:List Bool}{r:List Val}{sets:List SetM}(hc:ColD D cv c)(hr:RowF D rv r)(hs:SetsF D sv sets)(h:Sat B D w l) :
  Calls Tryz.prog 113 #[.agg #[cv],rv,sv] w (UpdGot B D l (cB c r sets)):=by
 obtain⟨W1,hW1,hs1⟩:=Sat.hide (h.alloc #[cv] bF)
 have tk:=BO hW1
 have tj:=BO hs1
 have HC:=BO hc
 have tu:=BO hr
 have uC:=BO hs
 obtain⟨X,hX⟩:∃X,cB c r sets=X:=⟨_,rfl⟩
 rw [hX]
 have ww:=BO hX
 have vU:=BO (kG (RdP.rd hc hs1) (RdP.rd hr.1 hs1))
 clear h hW1 hs1 hc hr hs hX
 go_enter Tryz.func113,Tryz.ntmps113
 go_upto_region 1 with fail
 rw [←tk.out]
 clear tk
 generalize w.heap.size=bt at tj ⊢
 obtain⟨b0,bf⟩:=au (tj.out.blk 0 rfl)
 cases hf:bD c r
 ·rw [hf]at vU
  obtain rfl:X=([],1):=ww.out.symm.trans (updT_1 hf)
  clear hf
  go_wp2_with (go_at_call 35;refine vU.out.mono ?_;rintro e1 w1 ⟨rfl,hk2⟩;have tt:=BO (tj.out.kept hk2);clear hk2 b0 bf tj)
  go_ret2
  exact⟨_,rfl,(fun _ h=>by cases h),tt.out.drop.own_nil tV 3⟩
 rw [hf]at vU
 have HF:=BO hf
 clear hf
 go_upto_region 3 with (go_at_call 35;refine vU.out.mono ?_;rintro e1 w1 ⟨rfl,hk2⟩;have tt:=BO (tj.out.kept hk2);clear hk2 b0 bf tj)
 clear vU
 obtain⟨b0,bf⟩:=au (tt.out.blk 0 rfl)
 have uh:=BO (fE (RdP.rd HC.out tt.out) (RdP.rd uC.out.1 tt.out))
 rw [sd (cF HF.out).2]at uh
 cases hf:dj c sets
 ·rw [hf]at uh
  simp only [Bool.false_eq_true,if_false]at uh
  obtain rfl:X=([],20):=ww.out.symm.trans (rk HF.out hf)
  clear hf
  go_wp2_with (go_at_call 34;refine uh.out.mono ?_;rintro e1 w2 ⟨rfl,hk2⟩;have tp:=BO (tt.out.kept hk2);clear hk2 b0 bf tt)
  go_ret2
  exact⟨_,rfl,(fun _ h=>by cases h),tp.out.drop.own_nil tV 3⟩
 rw [hf]at uh
 simp only [if_true]at uh
 have uI:=BO hf
 clear hf
 go_upto_region 6 with (go_at_call 34;refine uh.out.mono ?_;rintro e1 w2 ⟨rfl,hk2⟩;have tp:=BO (tt.out.kept hk2);clear hk2 b0 bf tt)
 clear uh
 have hrlen:r.length≤4:=by have h1:=cF HF.out;have h2:=h1.2;unfold cK at h2;simp at h2;omega
 have hrpos:1≤r.length:=by have h1:=cF HF.out;have h2:=h1.2;unfold cK at h2;simp at h2;omega
 have vK:=BO (gR (RdP.rd tu.out.1 tp.out) (by omega) tp.out)
 go_upto_region 7 with (go_at_call 63;refine vK.out.mono ?_;rintro e1 w3 ⟨v1,rfl,hs4⟩;have tz:=BO hs4;clear hs4)
 clear vK tp
 obtain⟨ao,cap,rfl⟩:=tz.out.own_shape
 obtain⟨g,rfl⟩:∃g,ao=some ⟨g,0,none⟩:=by
  rcases (tz.out.own 0 rfl).2.2 with ⟨h1,h2⟩|⟨g,c2,cur,h1,_⟩
  ·omega
  ·cases h1;exact⟨g,rfl⟩
 have Ba:=BO (RdP.rd uC.out.1 tz.out)
 obtain⟨-,m2,so,scap,rfl,-⟩:=RdP.rd uC.out.1 tz.out
 unfold maxLen at m2
 obtain⟨N,hN⟩:∃N,sets.length=N:=⟨_,rfl⟩
 obtain⟨M,hM⟩:∃M,r.length=M:=⟨_,rfl⟩
 have HN:=BO hN
 have HM:=BO hM
 have tF:=BO (show RdP D 7 (.slice so N scap) N (sets.flatMap SetM.cells)from hN▸uC.out.1)
 have vd:=BO uC.out.2
 rw [hN]at m2 uC ⊢
 rw [hM]at tz hrlen hrpos ⊢
 have BL:=BO (show N≤3 by have:=(iW uI.out).1;omega)
 clear hN hM Ba uC
 go_wp2_with fail
 go_loopw [28] (fun idx wr=>∃(j:Nat) (o:List Val),idx = .int .i64 j∧j≤N∧fL r (sets.take j) r=some o∧o.length=M∧bO o∧Sat B D wr (aC tV 3 (.slice (some ⟨g,0,none⟩) M cap) M (o.flatMap Val.cells)::blk bt #[cv] bF::l)) (fun idx _=>N-(intOf idx).toNat)
 case atStart=>exact⟨0,r,rfl,Nat.zero_le _,rfl,HM.out,tu.out.2,tz.out⟩
 case round =>
  obtain⟨j,o,rfl,hj,hu,hol,hof,hs⟩:=hrel
  have HU:=BO hu
  have zV:=BO hol
  have AI:=BO hof
  have HS:=BO hs
  clear hu hol hof hs tz
  by_cases hlt:j<N
  ·obtain⟨x,hx⟩:∃x,sets[j]?=some x:=⟨sets[j]'(by rw [HN.out];exact hlt),List.getElem?_eq_getElem _⟩
   have HX:=BO (show sets.take (j+1)=sets.take j ++ [x] by rw [List.take_add_one,hx];rfl)
   have hmay:=(iW uI.out).2 x (List.mem_of_getElem? hx)
   have wD:=BO hmay
   have AJ:=BO (vd.out x (List.mem_of_getElem? hx))
   have hcol:=lB (cF HF.out).2 hmay
   obtain⟨k,hk⟩:∃k:Nat,x.col=(k:Int):=⟨x.col.toNat,by omega⟩
   obtain⟨g1,o1,rfl,hr1⟩:=bS SetM.len (tF.out.rd HS.out) hx HN.out
   have xC:=BO (pQ hr1)
   obtain⟨W3,hW3,hs5⟩:=Sat.hide (HS.out.alloc x.cells.toArray cD)
   have yJ:=BO hW3
   have tE:=BO hs5
   have HK:=BO hk
   have hkM:k<M:=by
    have h1:=cF HF.out
    have h2:=sX hmay
    rw [HM.out]at h1
    omega
   clear hx hmay hr1 hW3 hs5 hk hcol HS
   go_upto_region 10 with (first|(refine bE rfl _ _ rfl _ _ rfl _ xC.out ?_)|(refine cO rfl _ _ _ rfl x.cells _ _ rfl rfl (by kernel_rfl) rfl (SetM.one x) ?_))
   rw [←yJ.out]
   clear yJ xC
   generalize wr.heap.size=bs at tE ⊢
   have yA:=BO (to_ok (RdP.rd tu.out.1 tE.out) (cF HF.out).1 wD.out (fun a ha=>(tu.out.2 a ha).1) AJ.out.1 tE.out)
   obtain⟨x0,x1,x2,x3,x4,x5,x6⟩:=aB (tE.out.blk 0 rfl)
   cases hb:toB r x
   ·rw [hb]at yA
    have vI:=BO (qr (out:=r) (j+1) (by rw [HX.out,gK,HU.out,oM,hb];rfl))
    obtain rfl:X=([],21):=ww.out.symm.trans (ri HF.out uI.out vI.out)
    clear hb
    go_wp2_with (first|(go_at_call 128;refine yA.out.mono ?_;rintro e5 w5 ⟨rfl,hs6⟩;have tq:=BO hs6;clear hs6 yA tE x0 x1 x2 x3 x4 x5 x6)|(refine cO rfl _ _ _ rfl (toV r x).cells _ _ rfl rfl (by kernel_rfl) rfl (Val.one _) ?_))
    go_ret2
    exact⟨_,rfl,(fun _ h=>by cases h),(((tq.out.alloc (toV r x).cells.toArray tV).drop.drop.drop.drop).own_nil tV 3)⟩
   ·rw [hb]at yA
    have zW:=BO (show fL r (sets.take (j+1)) r=some (o.set k (toV r x)) by rw [HX.out,gK,HU.out,oM,hb,HK.out];rfl)
    have Bb:=BO (pR tu.out.2 AJ.out)
    clear hb
    have hkM2:(k:Int)<(M:Int):=by omega
    go_upto_region 11 with (first|(go_at_call 128;refine yA.out.mono ?_;rintro e5 w5 ⟨rfl,hs6⟩;have tq:=BO (hs6.alloc (toV r x).cells.toArray tV);clear hs6 yA tE x0 x1 x2 x3 x4 x5 x6)|(refine cO rfl _ _ _ rfl (toV r x).cells _ _ rfl rfl (by kernel_rfl) rfl (Val.one _) ?_))
    obtain⟨W6,hW6⟩:∃W,W=w5.alloc (.cells (toV r x).cells.toArray tV):=⟨_,rfl⟩
    rw [←hW6]at tq ⊢
    generalize w5.heap.size=bv at tq ⊢
    clear hW6
    obtain⟨x0,x1,x2,x3,x4,x5,x6⟩:=aB (tq.out.blk 1 rfl)
    rw [HK.out]at x0
    have zC:=BO (fA (aA (tq.out.blk 0 rfl)))
    have tA:=BO (tq.out.drop.drop)
    clear tq
    go_wp2_with (first|(refine bE rfl _ _ rfl _ _ rfl _ zC.out ?_)|(refine iN Val.len Val.one rfl _ _ _ rfl tV g _ k M cap rfl (by omega) (toV r x) rfl o tA.out (by kernel_rfl) hkM zV.out ?_;intro w7 hs7;have ue:=BO hs7;clear hs7 tA zC x0 x1 x2 x3 x4 x5 x6))
    go_roundw
    case rel=>exact⟨j+1,_,by go_num,by omega,zW.out,by rw [List.length_set];exact zV.out,pP AI.out Bb.out,ue.out⟩
    case measure=>simp [intOf];omega
  ·obtain rfl:j=N:=by omega
   have zW:=BO (show fL r sets r=some o by rw [←HU.out,List.take_of_length_le (Nat.le_of_eq HN.out)])
   obtain rfl:X=(o,0):=ww.out.symm.trans (sU HF.out uI.out zW.out)
   go_wp2_with fail
   go_ret2
   exact⟨_,rfl,AI.out,by rw [zV.out];exact(HS.out.swap.drop)⟩
end Go.Proofs.YtdobimafhbfkhaaGreat
