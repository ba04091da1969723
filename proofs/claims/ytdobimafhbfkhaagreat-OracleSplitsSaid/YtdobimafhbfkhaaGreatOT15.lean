/- A row as it is changed (row.Update). (printed by genok6.py) -/
import Derived.Test.YtdobimafhbfkhaaGreatOT12
import Derived.Test.YtdobimafhbfkhaaGreatOT14
set_option maxHeartbeats 64000000
namespace Go.Proofs.YtdobimafhbfkhaaGreat
open Go.ChangeShapes Go.WideShapes Go.ChangeAt Go.RowKit
set_option maxRecDepth 100000
set_option linter.unusedSimpArgs false
def Val.fit (v:Val):Prop:=cL v.n∧v.s.size≤maxLen
abbrev bR (r:List Val):Prop:=∀a∈r,a.fit
def RowF (D:PH)(v:Value)(r:List Val):Prop:=RowD D v r∧bR r
def SetsF (D:PH)(v:Value)(l:List SetM):Prop:=SetsAt D v l∧∀s∈l,s.v.fit
abbrev ColD (D:PH)(v:Value)(c:List Bool):Prop:=RdP D 1 v c.length (c.flatMap de)
theorem RowF.mono {D D':PH}(le:PH.le D D'){v:Value}{r:List Val}(h:RowF D v r):RowF D' v r:=⟨h.1.mono le,h.2⟩
theorem SetsF.mono {D D':PH}(le:PH.le D D'){v:Value}{l:List SetM}(h:SetsF D v l):SetsF D' v l:=⟨RdP.mono h.1 le,h.2⟩
theorem hU (r:List Val):∀(l:List SetM) (s:SetM) (out:List Val),gb r (l ++ [s]) out=(gb r l out).bind fun o=>(toS r s).map fun v=>o.set s.col.toNat v
 | [],s,out=>by
  show(match toS r s with|none=>none|some v=>some (out.set s.col.toNat v))=(toS r s).map _
  cases toS r s<;>rfl
 | x::l,s,out=>by
  show(match toS r x with|none=>none|some v=>gb r (l ++ [s]) (out.set x.col.toNat v))=Option.bind (match toS r x with|none=>none|some v=>gb r l (out.set x.col.toNat v)) _
  cases toS r x with
  | none=>rfl
  | some v=>exact hU r l s _
theorem mz (r:List Val):∀(m l:List SetM) (out:List Val),gb r l out=none→gb r (l++m) out=none
 | [],l,out,h=>by simpa using h
 | s::m,l,out,h=>by
  have:l++s::m=(l ++ [s])++m:=by simp
  rw [this]
  exact mz r m _ out (by rw [hU,h];rfl)
theorem qZ {r:List Val}{l:List SetM}{out:List Val}(n:Nat)(h:gb r (l.take n) out=none):gb r l out=none:=by
 have:=mz r (l.drop n) _ out h
 rwa [List.take_append_drop]at this
theorem cM {c:List Bool}{r:List Val}(h:bw c r=true):r.length=c.length∧cu c=true:=by unfold bw at h;simp at h;exact⟨h.1.2,h.1.1⟩
theorem jq {c:List Bool}{l:List SetM}(h:cT c l=true):l.length≤3∧∀s∈l,aP c s=true:=by unfold cT at h;simp at h;exact⟨h.1.1.2,h.1.2⟩
theorem sD {c:List Bool}{s:SetM}(h:aP c s=true):s.col<(c.length:Int):=by
 unfold aP at h
 split at h
 ·cases h
 ·next hn =>
  have h2:¬aB c s.col=0:=fun e=>hn (.inr e)
  have h3:¬(s.col<0∨(c.length:Int)≤s.col):=fun e=>h2 (by unfold aB;rw [if_pos e])
  omega
theorem updT_1 {c:List Bool}{r:List Val}{l:List SetM}(h:bw c r=false):cJ c r l=([],1):=by unfold cJ;rw [h];rfl
theorem sZ {c:List Bool}{r:List Val}{l:List SetM}(h:bw c r=true)(h2:cT c l=false):cJ c r l=([],20):=by unfold cJ;rw [h,(cM h).2,h2];rfl
theorem tY {c:List Bool}{r:List Val}{l:List SetM}(h:bw c r=true)(h2:cT c l=true)(h3:gb r l r=none):cJ c r l=([],21):=by unfold cJ;rw [h,(cM h).2,h2,h3];rfl
theorem tl {c:List Bool}{r o:List Val}{l:List SetM}(h:bw c r=true)(h2:cT c l=true)(h3:gb r l r=some o):cJ c r l=(o,0):=by unfold cJ;rw [h,(cM h).2,h2,h3];rfl
theorem sG {c:List Bool}{l:List SetM}(h:cu c=true):d5 c l=if cT c l then 0 else 20:=by unfold d5;rw [h];rfl
theorem qu {r:List Val}{s:SetM}(hr:bR r)(hs:s.v.fit):(toV r s).fit:=by
 unfold toV
 split
 ·exact hs
 ·split
  ·unfold eP
   rw [List.getD_eq_getElem?_getD]
   cases h:r[s.frm.toNat]? with
   | none=>exact⟨show cL 0 by simp [cL],Nat.zero_le _⟩
   | some x=>exact hr x (List.mem_of_getElem? h)
  ·refine⟨?_,Nat.zero_le _⟩
   unfold gu dq
   show cL (if fP _=true then _ else 0)
   split
   ·next h=>exact kn.1 h
   ·simp [cL]
theorem qo {r:List Val}{i:Nat}{v:Val}(h:bR r)(hv:v.fit):bR (r.set i v):=fun a ha=>(List.mem_or_eq_of_mem_set ha).elim (h a) (fun e=>e▸hv)
def UpdGot (B:World)(D:PH)(l:List HP)(x:List Val×Int)(e:Ending)(w':World):Prop:=∃v',e = .returned (.tuple #[v',.int .i64 x.2])∧bR x.1∧Sat B D w' (aF tV 3 v' x.1.length (x.1.flatMap Val.cells)::l)
theorem rF {B w:World}{D:PH}{l:List HP}{cv rv sv:Value}{c:List Bool}{r:List Val}{sets:List SetM}(hc:ColD D cv c)(hr:RowF D rv r)(hs:SetsF D sv sets)(h:Sat B D w l) :
  Calls Tryz.prog 113 #[.agg #[cv],rv,sv] w (UpdGot B D l (cJ c r sets)):=by
 obtain⟨W1,hW1,hs1⟩:=Sat.hide (h.alloc #[cv] aX)
 have ul:=CM hW1
 have uk:=CM hs1
 have HC:=CM hc
 have uw:=CM hr
 have vz:=CM hs
 obtain⟨X,hX⟩:∃X,cJ c r sets=X:=⟨_,rfl⟩
 rw [hX]
 have xF:=CM hX
 have wh:=CM (kX (RdP.rd hc hs1) (RdP.rd hr.1 hs1))
 clear h hW1 hs1 hc hr hs hX
 go_enter Tryz.func113,Tryz.ntmps113
 go_upto_region 1 with fail
 rw [←ul.out]
 clear ul
 generalize w.heap.size=bt at uk ⊢
 obtain⟨b0,bf⟩:=aq (uk.out.blk 0 rfl)
 cases hf:bw c r
 ·rw [hf]at wh
  obtain rfl:X=([],1):=xF.out.symm.trans (updT_1 hf)
  clear hf
  go_wp2_with (go_at_call 35;refine wh.out.mono ?_;rintro e1 w1 ⟨rfl,hk2⟩;have ur:=CM (uk.out.kept hk2);clear hk2 b0 bf uk)
  go_ret2
  exact⟨_,rfl,(fun _ h=>by cases h),ur.out.drop.own_nil tV 3⟩
 rw [hf]at wh
 have HF:=CM hf
 clear hf
 go_upto_region 3 with (go_at_call 35;refine wh.out.mono ?_;rintro e1 w1 ⟨rfl,hk2⟩;have ur:=CM (uk.out.kept hk2);clear hk2 b0 bf uk)
 clear wh
 obtain⟨b0,bf⟩:=aq (ur.out.blk 0 rfl)
 have HCS:=CM (fK (RdP.rd HC.out ur.out) (RdP.rd vz.out.1 ur.out))
 rw [sG (cM HF.out).2]at HCS
 cases hf:cT c sets
 ·rw [hf]at HCS
  simp only [Bool.false_eq_true,if_false]at HCS
  obtain rfl:X=([],20):=xF.out.symm.trans (sZ HF.out hf)
  clear hf
  go_wp2_with (go_at_call 34;refine HCS.out.mono ?_;rintro e1 w2 ⟨rfl,hk2⟩;have ut:=CM (ur.out.kept hk2);clear hk2 b0 bf ur)
  go_ret2
  exact⟨_,rfl,(fun _ h=>by cases h),ut.out.drop.own_nil tV 3⟩
 rw [hf]at HCS
 simp only [if_true]at HCS
 have vk:=CM hf
 clear hf
 go_upto_region 6 with (go_at_call 34;refine HCS.out.mono ?_;rintro e1 w2 ⟨rfl,hk2⟩;have ut:=CM (ur.out.kept hk2);clear hk2 b0 bf ur)
 clear HCS
 have hrlen:r.length≤4:=by have h1:=cM HF.out;have h2:=h1.2;unfold cu at h2;simp at h2;omega
 have hrpos:1≤r.length:=by have h1:=cM HF.out;have h2:=h1.2;unfold cu at h2;simp at h2;omega
 have wT:=CM (gZ (RdP.rd uw.out.1 ut.out) (by omega) ut.out)
 go_upto_region 7 with (go_at_call 63;refine wT.out.mono ?_;rintro e1 w3 ⟨v1,rfl,hs4⟩;have uy:=CM hs4;clear hs4)
 clear wT ut
 obtain⟨ao,cap,rfl⟩:=uy.out.own_shape
 obtain⟨g,rfl⟩:∃g,ao=some ⟨g,0,none⟩:=by
  rcases (uy.out.own 0 rfl).2.2 with ⟨h1,h2⟩|⟨g,c2,cur,h1,_⟩
  ·omega
  ·cases h1;exact⟨g,rfl⟩
 have yt:=CM (RdP.rd vz.out.1 uy.out)
 obtain⟨-,m2,so,scap,rfl,-⟩:=RdP.rd vz.out.1 uy.out
 unfold maxLen at m2
 obtain⟨N,hN⟩:∃N,sets.length=N:=⟨_,rfl⟩
 obtain⟨M,hM⟩:∃M,r.length=M:=⟨_,rfl⟩
 have HN:=CM hN
 have HM:=CM hM
 have uD:=CM (show RdP D 7 (.slice so N scap) N (sets.flatMap SetM.cells)from hN▸vz.out.1)
 have wm:=CM vz.out.2
 rw [hN]at m2 vz ⊢
 rw [hM]at uy hrlen hrpos ⊢
 have CJ:=CM (show N≤3 by have:=(jq vk.out).1;omega)
 clear hN hM yt vz
 go_wp2_with fail
 go_loopw [28] (fun idx wr=>∃(j:Nat) (o:List Val),idx = .int .i64 j∧j≤N∧gb r (sets.take j) r=some o∧o.length=M∧bR o∧Sat B D wr (aF tV 3 (.slice (some ⟨g,0,none⟩) M cap) M (o.flatMap Val.cells)::blk bt #[cv] aX::l)) (fun idx _=>N-(intOf idx).toNat)
 case atStart=>exact⟨0,r,rfl,Nat.zero_le _,rfl,HM.out,uw.out.2,uy.out⟩
 case round =>
  obtain⟨j,o,rfl,hj,hu,hol,hof,hs⟩:=hrel
  have HU:=CM hu
  have A5:=CM hol
  have BO:=CM hof
  have HS:=CM hs
  clear hu hol hof hs uy
  by_cases hlt:j<N
  ·obtain⟨x,hx⟩:∃x,sets[j]?=some x:=⟨sets[j]'(by rw [HN.out];exact hlt),List.getElem?_eq_getElem _⟩
   have HX:=CM (show sets.take (j+1)=sets.take j ++ [x] by rw [List.take_add_one,hx];rfl)
   have hmay:=(jq vk.out).2 x (List.mem_of_getElem? hx)
   have vV:=CM hmay
   have BP:=CM (wm.out x (List.mem_of_getElem? hx))
   have hcol:=lN (cM HF.out).2 hmay
   obtain⟨k,hk⟩:∃k:Nat,x.col=(k:Int):=⟨x.col.toNat,by omega⟩
   obtain⟨g1,o1,rfl,hr1⟩:=bK SetM.len (uD.out.rd HS.out) hx HN.out
   have xK:=CM (nm hr1)
   obtain⟨W3,hW3,hs5⟩:=Sat.hide (HS.out.alloc x.cells.toArray cI)
   have zP:=CM hW3
   have uA:=CM hs5
   have HK:=CM hk
   have hkM:k<M:=by
    have h1:=cM HF.out
    have h2:=sD hmay
    rw [HM.out]at h1
    omega
   clear hx hmay hr1 hW3 hs5 hk hcol HS
   go_upto_region 10 with (first|(refine bG rfl _ _ rfl _ _ rfl _ xK.out ?_)|(refine cZ rfl _ _ _ rfl x.cells _ _ rfl rfl (by kernel_rfl) rfl (SetM.one x) ?_))
   rw [←zP.out]
   clear zP xK
   generalize wr.heap.size=bs at uA ⊢
   have zH:=CM (to_ok (RdP.rd uw.out.1 uA.out) (cM HF.out).1 vV.out (fun a ha=>(uw.out.2 a ha).1) BP.out.1 uA.out)
   obtain⟨x0,x1,x2,x3,x4,x5,x6⟩:=aC (uA.out.blk 0 rfl)
   cases hb:toB r x
   ·rw [hb]at zH
    have wb:=CM (qZ (out:=r) (j+1) (by rw [HX.out,hU,HU.out,qb,hb];rfl))
    obtain rfl:X=([],21):=xF.out.symm.trans (tY HF.out vk.out wb.out)
    clear hb
    go_wp2_with (first|(go_at_call 128;refine zH.out.mono ?_;rintro e5 w5 ⟨rfl,hs6⟩;have uu:=CM hs6;clear hs6 zH uA x0 x1 x2 x3 x4 x5 x6)|(refine cZ rfl _ _ _ rfl (toV r x).cells _ _ rfl rfl (by kernel_rfl) rfl (Val.one _) ?_))
    go_ret2
    exact⟨_,rfl,(fun _ h=>by cases h),(((uu.out.alloc (toV r x).cells.toArray tV).drop.drop.drop.drop).own_nil tV 3)⟩
   ·rw [hb]at zH
    have A6:=CM (show gb r (sets.take (j+1)) r=some (o.set k (toV r x)) by rw [HX.out,hU,HU.out,qb,hb,HK.out];rfl)
    have Cf:=CM (qu uw.out.2 BP.out)
    clear hb
    have hkM2:(k:Int)<(M:Int):=by omega
    go_upto_region 11 with (first|(go_at_call 128;refine zH.out.mono ?_;rintro e5 w5 ⟨rfl,hs6⟩;have uu:=CM (hs6.alloc (toV r x).cells.toArray tV);clear hs6 zH uA x0 x1 x2 x3 x4 x5 x6)|(refine cZ rfl _ _ _ rfl (toV r x).cells _ _ rfl rfl (by kernel_rfl) rfl (Val.one _) ?_))
    obtain⟨W6,hW6⟩:∃W,W=w5.alloc (.cells (toV r x).cells.toArray tV):=⟨_,rfl⟩
    rw [←hW6]at uu ⊢
    generalize w5.heap.size=bv at uu ⊢
    clear hW6
    obtain⟨x0,x1,x2,x3,x4,x5,x6⟩:=aC (uu.out.blk 1 rfl)
    rw [HK.out]at x0
    have AI:=CM (fB (aA (uu.out.blk 0 rfl)))
    have uo:=CM (uu.out.drop.drop)
    clear uu
    go_wp2_with (first|(refine bG rfl _ _ rfl _ _ rfl _ AI.out ?_)|(refine iF Val.len Val.one rfl _ _ _ rfl tV g _ k M cap rfl (by omega) (toV r x) rfl o uo.out (by kernel_rfl) hkM A5.out ?_;intro w7 hs7;have vb:=CM hs7;clear hs7 uo AI x0 x1 x2 x3 x4 x5 x6))
    go_roundw
    case rel=>exact⟨j+1,_,by go_num,by omega,A6.out,by rw [List.length_set];exact A5.out,qo BO.out Cf.out,vb.out⟩
    case measure=>simp [intOf];omega
  ·obtain rfl:j=N:=by omega
   have A6:=CM (show gb r sets r=some o by rw [←HU.out,List.take_of_length_le (Nat.le_of_eq HN.out)])
   obtain rfl:X=(o,0):=xF.out.symm.trans (tl HF.out vk.out A6.out)
   go_wp2_with fail
   go_ret2
   exact⟨_,rfl,BO.out,by rw [A5.out];exact(HS.out.swap.drop)⟩
end Go.Proofs.YtdobimafhbfkhaaGreat
