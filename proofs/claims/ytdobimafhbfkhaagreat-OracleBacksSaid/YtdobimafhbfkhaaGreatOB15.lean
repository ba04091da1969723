/- A row as it is changed (row.Update). (printed by genok6.py) -/
import Derived.Test.YtdobimafhbfkhaaGreatOB12
import Derived.Test.YtdobimafhbfkhaaGreatOB14
set_option maxHeartbeats 64000000
namespace Go.Proofs.YtdobimafhbfkhaaGreat
open Go.ChangeShapes Go.WideShapes Go.ChangeAt Go.RowKit
set_option maxRecDepth 100000
set_option linter.unusedSimpArgs false
def Val.fit (v:Val):Prop:=cF v.n∧v.s.size≤maxLen
abbrev bD (r:List Val):Prop:=∀a∈r,a.fit
def RowF (D:PH)(v:Value)(r:List Val):Prop:=RowD D v r∧bD r
def SetsF (D:PH)(v:Value)(l:List SetM):Prop:=SetsAt D v l∧∀s∈l,s.v.fit
abbrev ColD (D:PH)(v:Value)(c:List Bool):Prop:=RdP D 1 v c.length (c.flatMap dq)
theorem RowF.mono {D D':PH}(le:PH.le D D'){v:Value}{r:List Val}(h:RowF D v r):RowF D' v r:=⟨h.1.mono le,h.2⟩
theorem SetsF.mono {D D':PH}(le:PH.le D D'){v:Value}{l:List SetM}(h:SetsF D v l):SetsF D' v l:=⟨RdP.mono h.1 le,h.2⟩
theorem gW (r:List Val):∀(l:List SetM) (s:SetM) (out:List Val),fY r (l ++ [s]) out=(fY r l out).bind fun o=>(toS r s).map fun v=>o.set s.col.toNat v
 | [],s,out=>by
  show(match toS r s with|none=>none|some v=>some (out.set s.col.toNat v))=(toS r s).map _
  cases toS r s<;>rfl
 | x::l,s,out=>by
  show(match toS r x with|none=>none|some v=>fY r (l ++ [s]) (out.set x.col.toNat v))=Option.bind (match toS r x with|none=>none|some v=>fY r l (out.set x.col.toNat v)) _
  cases toS r x with
  | none=>rfl
  | some v=>exact gW r l s _
theorem l4 (r:List Val):∀(m l:List SetM) (out:List Val),fY r l out=none→fY r (l++m) out=none
 | [],l,out,h=>by simpa using h
 | s::m,l,out,h=>by
  have:l++s::m=(l ++ [s])++m:=by simp
  rw [this]
  exact l4 r m _ out (by rw [gW,h];rfl)
theorem rz {r:List Val}{l:List SetM}{out:List Val}(n:Nat)(h:fY r (l.take n) out=none):fY r l out=none:=by
 have:=l4 r (l.drop n) _ out h
 rwa [List.take_append_drop]at this
theorem cI {c:List Bool}{r:List Val}(h:bw c r=true):r.length=c.length∧cO c=true:=by unfold bw at h;simp at h;exact⟨h.1.2,h.1.1⟩
theorem jf {c:List Bool}{l:List SetM}(h:dn c l=true):l.length≤3∧∀s∈l,aW c s=true:=by unfold dn at h;simp at h;exact⟨h.1.1.2,h.1.2⟩
theorem rR {c:List Bool}{s:SetM}(h:aW c s=true):s.col<(c.length:Int):=by
 unfold aW at h
 split at h
 ·cases h
 ·next hn =>
  have h2:¬az c s.col=0:=fun e=>hn (.inr e)
  have h3:¬(s.col<0∨(c.length:Int)≤s.col):=fun e=>h2 (by unfold az;rw [if_pos e])
  omega
theorem updT_1 {c:List Bool}{r:List Val}{l:List SetM}(h:bw c r=false):cG c r l=([],1):=by unfold cG;rw [h];rfl
theorem rQ {c:List Bool}{r:List Val}{l:List SetM}(h:bw c r=true)(h2:dn c l=false):cG c r l=([],20):=by unfold cG;rw [h,(cI h).2,h2];rfl
theorem rV {c:List Bool}{r:List Val}{l:List SetM}(h:bw c r=true)(h2:dn c l=true)(h3:fY r l r=none):cG c r l=([],21):=by unfold cG;rw [h,(cI h).2,h2,h3];rfl
theorem rM {c:List Bool}{r o:List Val}{l:List SetM}(h:bw c r=true)(h2:dn c l=true)(h3:fY r l r=some o):cG c r l=(o,0):=by unfold cG;rw [h,(cI h).2,h2,h3];rfl
theorem ti {c:List Bool}{l:List SetM}(h:cO c=true):dZ c l=if dn c l then 0 else 20:=by unfold dZ;rw [h];rfl
theorem qb {r:List Val}{s:SetM}(hr:bD r)(hs:s.v.fit):(toV r s).fit:=by
 unfold toV
 split
 ·exact hs
 ·split
  ·unfold eM
   rw [List.getD_eq_getElem?_getD]
   cases h:r[s.frm.toNat]? with
   | none=>exact⟨show cF 0 by simp [cF],Nat.zero_le _⟩
   | some x=>exact hr x (List.mem_of_getElem? h)
  ·refine⟨?_,Nat.zero_le _⟩
   unfold gL di
   show cF (if fQ _=true then _ else 0)
   split
   ·next h=>exact kR.1 h
   ·simp [cF]
theorem qf {r:List Val}{i:Nat}{v:Val}(h:bD r)(hv:v.fit):bD (r.set i v):=fun a ha=>(List.mem_or_eq_of_mem_set ha).elim (h a) (fun e=>e▸hv)
def UpdGot (B:World)(D:PH)(l:List HP)(x:List Val×Int)(e:Ending)(w':World):Prop:=∃v',e = .returned (.tuple #[v',.int .i64 x.2])∧bD x.1∧Sat B D w' (aC tV 3 v' x.1.length (x.1.flatMap Val.cells)::l)
theorem qs {B w:World}{D:PH}{l:List HP}{cv rv sv:Value}{c:List Bool}{r:List Val}{sets:List SetM}(hc:ColD D cv c)(hr:RowF D rv r)(hs:SetsF D sv sets)(h:Sat B D w l) :
  Calls Tryz.prog 113 #[.agg #[cv],rv,sv] w (UpdGot B D l (cG c r sets)):=by
 obtain⟨W1,hW1,hs1⟩:=Sat.hide (h.alloc #[cv] bH)
 have tE:=B5 hW1
 have tD:=B5 hs1
 have HC:=B5 hc
 have tM:=B5 hr
 have uR:=B5 hs
 obtain⟨X,hX⟩:∃X,cG c r sets=X:=⟨_,rfl⟩
 rw [hX]
 have wN:=B5 hX
 have wj:=B5 (j9 (RdP.rd hc hs1) (RdP.rd hr.1 hs1))
 clear h hW1 hs1 hc hr hs hX
 go_enter Tryz.func113,Tryz.ntmps113
 go_upto_region 1 with fail
 rw [←tE.out]
 clear tE
 generalize w.heap.size=bt at tD ⊢
 obtain⟨b0,bf⟩:=av (tD.out.blk 0 rfl)
 cases hf:bw c r
 ·rw [hf]at wj
  obtain rfl:X=([],1):=wN.out.symm.trans (updT_1 hf)
  clear hf
  go_wp2_with (go_at_call 35;refine wj.out.mono ?_;rintro e1 w1 ⟨rfl,hk2⟩;have tL:=B5 (tD.out.kept hk2);clear hk2 b0 bf tD)
  go_ret2
  exact⟨_,rfl,(fun _ h=>by cases h),tL.out.drop.own_nil tV 3⟩
 rw [hf]at wj
 have HF:=B5 hf
 clear hf
 go_upto_region 3 with (go_at_call 35;refine wj.out.mono ?_;rintro e1 w1 ⟨rfl,hk2⟩;have tL:=B5 (tD.out.kept hk2);clear hk2 b0 bf tD)
 clear wj
 obtain⟨b0,bf⟩:=av (tL.out.blk 0 rfl)
 have uC:=B5 (fW (RdP.rd HC.out tL.out) (RdP.rd uR.out.1 tL.out))
 rw [ti (cI HF.out).2]at uC
 cases hf:dn c sets
 ·rw [hf]at uC
  simp only [Bool.false_eq_true,if_false]at uC
  obtain rfl:X=([],20):=wN.out.symm.trans (rQ HF.out hf)
  clear hf
  go_wp2_with (go_at_call 34;refine uC.out.mono ?_;rintro e1 w2 ⟨rfl,hk2⟩;have tH:=B5 (tL.out.kept hk2);clear hk2 b0 bf tL)
  go_ret2
  exact⟨_,rfl,(fun _ h=>by cases h),tH.out.drop.own_nil tV 3⟩
 rw [hf]at uC
 simp only [if_true]at uC
 have uX:=B5 hf
 clear hf
 go_upto_region 6 with (go_at_call 34;refine uC.out.mono ?_;rintro e1 w2 ⟨rfl,hk2⟩;have tH:=B5 (tL.out.kept hk2);clear hk2 b0 bf tL)
 clear uC
 have hrlen:r.length≤4:=by have h1:=cI HF.out;have h2:=h1.2;unfold cO at h2;simp at h2;omega
 have hrpos:1≤r.length:=by have h1:=cI HF.out;have h2:=h1.2;unfold cO at h2;simp at h2;omega
 have vW:=B5 (gO (RdP.rd tM.out.1 tH.out) (by omega) tH.out)
 go_upto_region 7 with (go_at_call 63;refine vW.out.mono ?_;rintro e1 w3 ⟨v1,rfl,hs4⟩;have tP:=B5 hs4;clear hs4)
 clear vW tH
 obtain⟨ao,cap,rfl⟩:=tP.out.own_shape
 obtain⟨g,rfl⟩:∃g,ao=some ⟨g,0,none⟩:=by
  rcases (tP.out.own 0 rfl).2.2 with ⟨h1,h2⟩|⟨g,c2,cur,h1,_⟩
  ·omega
  ·cases h1;exact⟨g,rfl⟩
 have Bv:=B5 (RdP.rd uR.out.1 tP.out)
 obtain⟨-,m2,so,scap,rfl,-⟩:=RdP.rd uR.out.1 tP.out
 unfold maxLen at m2
 obtain⟨N,hN⟩:∃N,sets.length=N:=⟨_,rfl⟩
 obtain⟨M,hM⟩:∃M,r.length=M:=⟨_,rfl⟩
 have HN:=B5 hN
 have HM:=B5 hM
 have tY:=B5 (show RdP D 7 (.slice so N scap) N (sets.flatMap SetM.cells)from hN▸uR.out.1)
 have vt:=B5 uR.out.2
 rw [hN]at m2 uR ⊢
 rw [hM]at tP hrlen hrpos ⊢
 have A3:=B5 (show N≤3 by have:=(jf uX.out).1;omega)
 clear hN hM Bv uR
 go_wp2_with fail
 go_loopw [28] (fun idx wr=>∃(j:Nat) (o:List Val),idx = .int .i64 j∧j≤N∧fY r (sets.take j) r=some o∧o.length=M∧bD o∧Sat B D wr (aC tV 3 (.slice (some ⟨g,0,none⟩) M cap) M (o.flatMap Val.cells)::blk bt #[cv] bH::l)) (fun idx _=>N-(intOf idx).toNat)
 case atStart=>exact⟨0,r,rfl,Nat.zero_le _,rfl,HM.out,tM.out.2,tP.out⟩
 case round =>
  obtain⟨j,o,rfl,hj,hu,hol,hof,hs⟩:=hrel
  have HU:=B5 hu
  have An:=B5 hol
  have A4:=B5 hof
  have HS:=B5 hs
  clear hu hol hof hs tP
  by_cases hlt:j<N
  ·obtain⟨x,hx⟩:∃x,sets[j]?=some x:=⟨sets[j]'(by rw [HN.out];exact hlt),List.getElem?_eq_getElem _⟩
   have HX:=B5 (show sets.take (j+1)=sets.take j ++ [x] by rw [List.take_add_one,hx];rfl)
   have hmay:=(jf uX.out).2 x (List.mem_of_getElem? hx)
   have wS:=B5 hmay
   have A5:=B5 (vt.out x (List.mem_of_getElem? hx))
   have hcol:=lE (cI HF.out).2 hmay
   obtain⟨k,hk⟩:∃k:Nat,x.col=(k:Int):=⟨x.col.toNat,by omega⟩
   obtain⟨g1,o1,rfl,hr1⟩:=bJ SetM.len (tY.out.rd HS.out) hx HN.out
   have xO:=B5 (pW hr1)
   obtain⟨W3,hW3,hs5⟩:=Sat.hide (HS.out.alloc x.cells.toArray cH)
   have yW:=B5 hW3
   have tU:=B5 hs5
   have HK:=B5 hk
   have hkM:k<M:=by
    have h1:=cI HF.out
    have h2:=rR hmay
    rw [HM.out]at h1
    omega
   clear hx hmay hr1 hW3 hs5 hk hcol HS
   go_upto_region 10 with (first|(refine bF rfl _ _ rfl _ _ rfl _ xO.out ?_)|(refine cS rfl _ _ _ rfl x.cells _ _ rfl rfl (by kernel_rfl) rfl (SetM.one x) ?_))
   rw [←yW.out]
   clear yW xO
   generalize wr.heap.size=bs at tU ⊢
   have yO:=B5 (to_ok (RdP.rd tM.out.1 tU.out) (cI HF.out).1 wS.out (fun a ha=>(tM.out.2 a ha).1) A5.out.1 tU.out)
   obtain⟨x0,x1,x2,x3,x4,x5,x6⟩:=aB (tU.out.blk 0 rfl)
   cases hb:toB r x
   ·rw [hb]at yO
    have vU:=B5 (rz (out:=r) (j+1) (by rw [HX.out,gW,HU.out,oS,hb];rfl))
    obtain rfl:X=([],21):=wN.out.symm.trans (rV HF.out uX.out vU.out)
    clear hb
    go_wp2_with (first|(go_at_call 128;refine yO.out.mono ?_;rintro e5 w5 ⟨rfl,hs6⟩;have tJ:=B5 hs6;clear hs6 yO tU x0 x1 x2 x3 x4 x5 x6)|(refine cS rfl _ _ _ rfl (toV r x).cells _ _ rfl rfl (by kernel_rfl) rfl (Val.one _) ?_))
    go_ret2
    exact⟨_,rfl,(fun _ h=>by cases h),(((tJ.out.alloc (toV r x).cells.toArray tV).drop.drop.drop.drop).own_nil tV 3)⟩
   ·rw [hb]at yO
    have Ao:=B5 (show fY r (sets.take (j+1)) r=some (o.set k (toV r x)) by rw [HX.out,gW,HU.out,oS,hb,HK.out];rfl)
    have Bw:=B5 (qb tM.out.2 A5.out)
    clear hb
    have hkM2:(k:Int)<(M:Int):=by omega
    go_upto_region 11 with (first|(go_at_call 128;refine yO.out.mono ?_;rintro e5 w5 ⟨rfl,hs6⟩;have tJ:=B5 (hs6.alloc (toV r x).cells.toArray tV);clear hs6 yO tU x0 x1 x2 x3 x4 x5 x6)|(refine cS rfl _ _ _ rfl (toV r x).cells _ _ rfl rfl (by kernel_rfl) rfl (Val.one _) ?_))
    obtain⟨W6,hW6⟩:∃W,W=w5.alloc (.cells (toV r x).cells.toArray tV):=⟨_,rfl⟩
    rw [←hW6]at tJ ⊢
    generalize w5.heap.size=bv at tJ ⊢
    clear hW6
    obtain⟨x0,x1,x2,x3,x4,x5,x6⟩:=aB (tJ.out.blk 1 rfl)
    rw [HK.out]at x0
    have zT:=B5 (fX (aA (tJ.out.blk 0 rfl)))
    have tQ:=B5 (tJ.out.drop.drop)
    clear tJ
    go_wp2_with (first|(refine bF rfl _ _ rfl _ _ rfl _ zT.out ?_)|(refine iF Val.len Val.one rfl _ _ _ rfl tV g _ k M cap rfl (by omega) (toV r x) rfl o tQ.out (by kernel_rfl) hkM An.out ?_;intro w7 hs7;have uv:=B5 hs7;clear hs7 tQ zT x0 x1 x2 x3 x4 x5 x6))
    go_roundw
    case rel=>exact⟨j+1,_,by go_num,by omega,Ao.out,by rw [List.length_set];exact An.out,qf A4.out Bw.out,uv.out⟩
    case measure=>simp [intOf];omega
  ·obtain rfl:j=N:=by omega
   have Ao:=B5 (show fY r sets r=some o by rw [←HU.out,List.take_of_length_le (Nat.le_of_eq HN.out)])
   obtain rfl:X=(o,0):=wN.out.symm.trans (rM HF.out uX.out Ao.out)
   go_wp2_with fail
   go_ret2
   exact⟨_,rfl,A4.out,by rw [An.out];exact(HS.out.swap.drop)⟩
end Go.Proofs.YtdobimafhbfkhaaGreat
