/- Whether sets may be a table's (row.CheckSets). (printed by genok3.py) -/
import Derived.Test.YtdobimafhbfkhaaGreatOE11
set_option maxHeartbeats 64000000
namespace Go.Proofs.YtdobimafhbfkhaaGreat
open Go.ChangeShapes Go.WideShapes Go.ChangeAt Go.RowKit
set_option maxRecDepth 100000
set_option linter.unusedSimpArgs false
abbrev tMet : TypeId:=115
abbrev SetsRd (w:World)(v:Value)(l:List SetM):Prop:=Rd w 7 v l.length (l.flatMap SetM.cells)
abbrev SetsAt (D:PH)(v:Value)(l:List SetM):Prop:=RdP D 7 v l.length (l.flatMap SetM.cells)
def ff (l:List SetM)(i:Nat):Bool:=decide ((i:Int)∈l.map SetM.col)
def fG (l:List SetM):Array Value:=#[.bool (ff l 0),.bool (ff l 1),.bool (ff l 2),.bool (ff l 3)]
theorem lB {c:List Bool}{s:SetM}(hm:cK c=true)(h:aW c s=true):s.col=1∨s.col=2∨s.col=3:=by
 have h4:c.length≤4:=by unfold cK at hm;simp at hm;exact hm.2
 unfold aW at h
 split at h
 ·cases h
 ·next hn =>
  have h1:¬s.col<1:=fun e=>hn (.inl e)
  have h2:¬az c s.col=0:=fun e=>hn (.inr e)
  have h3:¬(s.col<0∨(c.length:Int)≤s.col):=fun e=>h2 (by unfold az;rw [if_pos e])
  omega
theorem jh (l:List SetM)(s:SetM)(i:Nat):ff (l ++ [s]) i=(ff l i||decide ((i:Int)=s.col)):=by
 unfold ff
 rw [List.map_append,Bool.eq_iff_iff]
 simp
theorem qd (l:List SetM)(s:SetM):lN (l ++ [s])=(lN l && !decide (s.col∈l.map SetM.col)):=by
 unfold lN
 rw [List.map_append,Bool.eq_iff_iff]
 simp only [decide_eq_true_eq,Bool.and_eq_true,Bool.not_eq_true',decide_eq_false_iff_not,List.nodup_append,List.map_cons,List.map_nil]
 constructor
 ·rintro⟨h1,_,h2⟩
  exact⟨h1,fun hm=>h2 _ hm _ (List.mem_cons_self ..) rfl⟩
 ·rintro⟨h1,h2⟩
  exact⟨h1,by simp,fun a ha b hb e=>by simp at hb;subst hb;subst e;exact h2 ha⟩
def em (c:List Bool)(l:List SetM):Bool:=l.all (aW c)&&lN l
theorem dm (c:List Bool)(l:List SetM)(s:SetM):em c (l ++ [s])=(em c l&&(aW c s && !decide (s.col∈l.map SetM.col))):=by
 unfold em
 rw [List.all_append,qd]
 simp only [List.all_cons,List.all_nil,Bool.and_true]
 cases l.all (aW c)<;>cases lN l<;>cases aW c s<;>simp
theorem iH (c:List Bool):∀(m l:List SetM),em c l=false→em c (l++m)=false
 | [],l,h=>by simpa using h
 | s::m,l,h=>by
  have:l++s::m=(l ++ [s])++m:=by simp
  rw [this]
  exact iH c m _ (by rw [dm,h];rfl)
theorem pB {c:List Bool}{l:List SetM}(n:Nat)(h:em c (l.take n)=false):em c l=false:=by
 have:=iH c (l.drop n) _ h
 rwa [List.take_append_drop]at this
theorem mZ {c:List Bool}{l:List SetM}(h1:cK c=true)(h2:l.length≤3):dj c l=em c l:=by
 unfold dj em
 rw [h1,decide_eq_true h2]
 simp
theorem pg {l:List SetM}{s:SetM}(h:s.col=1):fG (l ++ [s])=(fG l).setIfInBounds 1 (.bool true):=by unfold fG;simp [jh,h]
theorem pC {l:List SetM}{s:SetM}(h:s.col=2):fG (l ++ [s])=(fG l).setIfInBounds 2 (.bool true):=by unfold fG;simp [jh,h]
theorem pt {l:List SetM}{s:SetM}(h:s.col=3):fG (l ++ [s])=(fG l).setIfInBounds 3 (.bool true):=by unfold fG;simp [jh,h]
theorem fq {w:World}{b:Nat}{l:List SetM}{t:TypeId}(h:w.heap[b]?=some (.cells (fG l) t (0,0))) :
  w.cell? ⟨b,0,none⟩=some (.bool (ff l 0))∧w.cell? ⟨b,1,none⟩=some (.bool (ff l 1))∧w.cell? ⟨b,2,none⟩=some (.bool (ff l 2))∧w.cell? ⟨b,3,none⟩=some (.bool (ff l 3))∧(∀j,w.frozen? ⟨b,j,none⟩=false):=fC h
def dX (c:List Bool)(l:List SetM):Int:=if cK c then (if dj c l then 0 else 20)else 1
theorem qH {c:List Bool}{l:List SetM}(h1:cK c=true)(h2:¬l.length≤3):dX c l=20:=by
 unfold dX dj
 rw [h1,decide_eq_false h2]
 simp
theorem eM {c:List Bool}{l:List SetM}(h1:cK c=true)(h2:l.length≤3)(n:Nat)(h:em c (l.take n)=false):dX c l=20:=by
 unfold dX
 rw [mZ h1 h2,pB n h,h1]
 simp
theorem nt {c:List Bool}{l:List SetM}(h1:cK c=true)(h2:l.length≤3)(h:em c l=true):dX c l=0:=by
 unfold dX
 rw [mZ h1 h2,h,h1]
 simp
theorem fE {w:World}{cv sv:Value}{c:List Bool}{sets:List SetM}(hc:bB w cv c)(hr:SetsRd w sv sets) :
  Calls Tryz.prog 34 #[.agg #[cv],sv] w fun e w'=>e = .returned (.int .i64 (dX c sets))∧Kept (fun _=>False) w w':=by
 have hk1:Kept (fun _=>False) w (w.alloc (.cells #[cv] bF)):=(Kept.refl _ _).alloc _
 have hb1:(w.alloc (.cells #[cv] bF)).heap[w.heap.size]?=some (.cells #[cv] bF (0,0)):=aw w _
 have HC:=BO (Rd.kept hc hk1 (fun _ _ h=>h))
 have HR:=BO (Rd.kept hr hk1 (fun _ _ h=>h))
 have tr:=BO hk1
 have tl:=BO hb1
 have yz:=BO hc
 have AG:=BO (show Rd w 7 sv sets.length (sets.flatMap SetM.cells)from hr)
 obtain⟨-,m2,ro,rcap,rfl,-⟩:=hr
 clear hk1 hb1 hc
 go_enter Tryz.func34,Tryz.ntmps34
 go_upto_region 1 with (fail)
 obtain⟨W,hW⟩:∃W,W=w.alloc (.cells #[cv] bF):=⟨_,rfl⟩
 rw [←hW]at HC HR tr tl ⊢
 generalize w.heap.size=bt at tl ⊢
 clear hW
 obtain⟨b0,bf⟩:=au tl.out
 have wU:=BO (fp HC.out)
 cases hm:cK c
 ·have HM:=BO (show chk c=1 by simp [chk,hm])
  have HF:=BO (show dX c sets=1 by simp [dX,hm])
  clear hm
  go_wp2_with ((go_at_call 31;refine wU.out.mono ?_;rw [HM.out];rintro e1 w1 ⟨rfl,hk2⟩;have tC:=BO hk2;clear hk2 b0 bf))
  go_ret
  rw [HF.out]
  exact⟨rfl,tr.out.trans tC.out (fun _ h=>h.elim)⟩
 have HM:=BO (show chk c=0 by simp [chk,hm])
 have xQ:=BO hm
 obtain⟨N,hN⟩:∃N,sets.length=N:=⟨_,rfl⟩
 unfold maxLen at m2
 rw [hN]at HR AG m2 ⊢
 have HN:=BO hN
 by_cases hl:N≤3
 ·have HL:=BO (show sets.length≤3 by omega)
  have hl2:¬((N:Int) > 3):=by omega
  clear hm hN
  go_upto_region 4 with ((go_at_call 31;refine wU.out.mono ?_;rw [HM.out];rintro e1 w1 ⟨rfl,hk2⟩;have tC:=BO hk2;clear hk2 b0 bf))
  obtain⟨W2,hW2,hk3,hb2⟩:∃W,W=w1.alloc (.cells (fG []) tMet)∧Kept (fun _=>False) w1 W∧W.heap[w1.heap.size]?=some (.cells (fG []) tMet (0,0)):=⟨_,rfl,(Kept.refl _ _).alloc _,aw _ _⟩
  have wV:=BO (show w1.alloc (.cells #[.bool false,.bool false,.bool false,.bool false] tMet)=W2 from hW2.symm)
  have vb:=BO (show w.heap.size≤w1.heap.size from Nat.le_trans tr.out.size tC.out.size)
  have v6:=BO ((tr.out.trans tC.out (fun _ h=>h.elim)).trans hk3 (fun _ h=>h.elim))
  have hkw:=tC.out.trans hk3 (fun _ h=>h.elim)
  have AH:=BO (ak hkw tl.out)
  have zS:=BO hb2
  have vT:=BO (show bt≠w1.heap.size from Nat.ne_of_lt (Nat.lt_of_lt_of_le (ax tl.out) tC.out.size))
  clear hW2 hk3 hb2 hkw HC HR tr tC wU HM tl
  go_upto_region 7 with fail
  rw [wV.out]
  clear wV
  generalize hbm:w1.heap.size=bm at zS vT vb ⊢
  clear hbm
  go_wp2_with fail
  go_loopw [19] (fun idx wr=>∃j:Nat,idx = .int .i64 j∧j≤N∧em c (sets.take j)=true∧Kept (fun k=>k=bm) W2 wr∧wr.heap[bm]?=some (.cells (fG (sets.take j)) tMet (0,0))) (fun idx _=>N-(intOf idx).toNat)
  case atStart=>exact⟨0,rfl,Nat.zero_le _,rfl,Kept.refl _ _,zS.out⟩
  case round =>
   obtain⟨j,rfl,hj,hno,hkr,hbr⟩:=hrel
   have xh:=BO hkr
   have yy:=BO (v6.out.trans hkr (fun k h=>.inr (h▸vb.out)))
   have vI:=BO hno
   have zT:=BO hbr
   clear hkr hno hbr zS
   by_cases hlt:j<N
   ·obtain⟨x,hx⟩:∃x,sets[j]?=some x:=⟨sets[j]'(by rw [HN.out];exact hlt),List.getElem?_eq_getElem _⟩
    have HX:=BO (show sets.take (j+1)=sets.take j ++ [x] by rw [List.take_add_one,hx];rfl)
    obtain⟨g1,o1,rfl,hr1⟩:=bS SetM.len (Rd.kept AG.out yy.out (fun _ _ h=>h)) hx HN.out
    have xC:=BO (pQ hr1)
    obtain⟨W3,hW3,hk3,hb3⟩:∃W,W=wr.alloc (.cells x.cells.toArray cD)∧Kept (fun _=>False) wr W∧W.heap[wr.heap.size]?=some (.cells x.cells.toArray cD (0,0)):=⟨_,rfl,(Kept.refl _ _).alloc _,aw _ _⟩
    have yJ:=BO hW3
    have ub:=BO hb3
    have u4:=BO (ak hk3 zT.out)
    have um:=BO (xh.out.trans hk3 (fun _ h=>h.elim))
    have wC:=BO (yy.out.trans hk3 (fun _ h=>h.elim))
    have zU:=BO ((um.out.block _ (ax AH.out) vT.out).trans AH.out)
    have yK:=BO (show bm≠wr.heap.size from Nat.ne_of_lt (ax zT.out))
    have hib:(j:Int)<(N:Int):=by omega
    have HI:=BO hib
    clear hx hr1 hW3 hk3 hb3 zT xh
    go_upto_region 10 with (first|(refine bE rfl _ _ rfl _ _ rfl _ xC.out ?_)|(refine cO rfl _ _ _ rfl x.cells _ _ rfl rfl (by kernel_rfl) rfl (SetM.one x) ?_))
    rw [←yJ.out]
    clear yJ xC
    generalize wr.heap.size=bs at ub yK ⊢
    have wD:=BO (qv (Rd.kept yz.out wC.out (fun _ _ h=>h)) x)
    obtain⟨b0,bf⟩:=au zU.out
    obtain⟨x0,x1,x2,x3,x4,x5,x6⟩:=aB ub.out
    cases hy:aW c x
    ·rw [hy]at wD
     have HF:=BO (eM xQ.out HL.out (j+1) (by rw [HX.out,dm,hy];simp))
     clear hy
     go_wp2_with (go_at_call 48;refine wD.out.mono ?_;rintro e4 w4 ⟨rfl,hk5⟩;have ui:=BO hk5;clear hk5 b0 bf x0 x1 x2 x3 x4 x5 x6)
     go_ret
     rw [HF.out]
     exact⟨rfl,wC.out.trans ui.out (fun _ h=>h.elim)⟩
    ·rw [hy]at wD
     have HY:=BO hy
     obtain⟨col,op,frm,oth,v⟩:=x
     have hcol:=lB xQ.out hy
     simp only at hcol
     clear hy
     rcases hcol with rfl|rfl|rfl
     ·cases hz:ff (sets.take j) 1
      ·have HZ:=BO hz
       have vJ:=BO (show em c (sets.take (j+1))=true by rw [HX.out,dm,vI.out,HY.out];unfold ff at hz;simpa using hz)
       have yL:=BO (show fG (sets.take (j+1))=(fG (sets.take j)).setIfInBounds 1 (.bool true) by rw [HX.out,pg rfl])
       clear hz
       go_wp2_with (go_at_call 48;refine wD.out.mono ?_;rintro e4 w4 ⟨rfl,hk5⟩;have ui:=BO hk5;clear hk5 b0 bf x0 x1 x2 x3 x4 x5 x6;obtain⟨x0,x1,x2,x3,x4,x5,x6⟩:=aB (ak ui.out ub.out);obtain⟨z0,z1,z2,z3,zf⟩:=fq (ak ui.out u4.out);first|rw [HZ.out]at z1|rw [HZ.out]at z2|rw [HZ.out]at z3)
       go_roundw
       case rel=>exact⟨j+1,by go_num,by omega,vJ.out,((um.out.trans ui.out (fun _ h=>h.elim)).setCell ⟨bm,1,none⟩ _ (.inl rfl)),by rw [yL.out];exact dF (ak ui.out u4.out) _⟩
       case measure=>simp [intOf];omega
      ·have HZ:=BO hz
       have HF:=BO (eM xQ.out HL.out (j+1) (by rw [HX.out,dm];unfold ff at hz;have:=of_decide_eq_true hz;simp at this ⊢;intros;simpa using this))
       clear hz
       go_wp2_with (go_at_call 48;refine wD.out.mono ?_;rintro e4 w4 ⟨rfl,hk5⟩;have ui:=BO hk5;clear hk5 b0 bf x0 x1 x2 x3 x4 x5 x6;obtain⟨x0,x1,x2,x3,x4,x5,x6⟩:=aB (ak ui.out ub.out);obtain⟨z0,z1,z2,z3,zf⟩:=fq (ak ui.out u4.out);first|rw [HZ.out]at z1|rw [HZ.out]at z2|rw [HZ.out]at z3)
       go_ret
       rw [HF.out]
       exact⟨rfl,wC.out.trans ui.out (fun _ h=>h.elim)⟩
     ·cases hz:ff (sets.take j) 2
      ·have HZ:=BO hz
       have vJ:=BO (show em c (sets.take (j+1))=true by rw [HX.out,dm,vI.out,HY.out];unfold ff at hz;simpa using hz)
       have yL:=BO (show fG (sets.take (j+1))=(fG (sets.take j)).setIfInBounds 2 (.bool true) by rw [HX.out,pC rfl])
       clear hz
       go_wp2_with (go_at_call 48;refine wD.out.mono ?_;rintro e4 w4 ⟨rfl,hk5⟩;have ui:=BO hk5;clear hk5 b0 bf x0 x1 x2 x3 x4 x5 x6;obtain⟨x0,x1,x2,x3,x4,x5,x6⟩:=aB (ak ui.out ub.out);obtain⟨z0,z1,z2,z3,zf⟩:=fq (ak ui.out u4.out);first|rw [HZ.out]at z1|rw [HZ.out]at z2|rw [HZ.out]at z3)
       go_roundw
       case rel=>exact⟨j+1,by go_num,by omega,vJ.out,((um.out.trans ui.out (fun _ h=>h.elim)).setCell ⟨bm,2,none⟩ _ (.inl rfl)),by rw [yL.out];exact dF (ak ui.out u4.out) _⟩
       case measure=>simp [intOf];omega
      ·have HZ:=BO hz
       have HF:=BO (eM xQ.out HL.out (j+1) (by rw [HX.out,dm];unfold ff at hz;have:=of_decide_eq_true hz;simp at this ⊢;intros;simpa using this))
       clear hz
       go_wp2_with (go_at_call 48;refine wD.out.mono ?_;rintro e4 w4 ⟨rfl,hk5⟩;have ui:=BO hk5;clear hk5 b0 bf x0 x1 x2 x3 x4 x5 x6;obtain⟨x0,x1,x2,x3,x4,x5,x6⟩:=aB (ak ui.out ub.out);obtain⟨z0,z1,z2,z3,zf⟩:=fq (ak ui.out u4.out);first|rw [HZ.out]at z1|rw [HZ.out]at z2|rw [HZ.out]at z3)
       go_ret
       rw [HF.out]
       exact⟨rfl,wC.out.trans ui.out (fun _ h=>h.elim)⟩
     ·cases hz:ff (sets.take j) 3
      ·have HZ:=BO hz
       have vJ:=BO (show em c (sets.take (j+1))=true by rw [HX.out,dm,vI.out,HY.out];unfold ff at hz;simpa using hz)
       have yL:=BO (show fG (sets.take (j+1))=(fG (sets.take j)).setIfInBounds 3 (.bool true) by rw [HX.out,pt rfl])
       clear hz
       go_wp2_with (go_at_call 48;refine wD.out.mono ?_;rintro e4 w4 ⟨rfl,hk5⟩;have ui:=BO hk5;clear hk5 b0 bf x0 x1 x2 x3 x4 x5 x6;obtain⟨x0,x1,x2,x3,x4,x5,x6⟩:=aB (ak ui.out ub.out);obtain⟨z0,z1,z2,z3,zf⟩:=fq (ak ui.out u4.out);first|rw [HZ.out]at z1|rw [HZ.out]at z2|rw [HZ.out]at z3)
       go_roundw
       case rel=>exact⟨j+1,by go_num,by omega,vJ.out,((um.out.trans ui.out (fun _ h=>h.elim)).setCell ⟨bm,3,none⟩ _ (.inl rfl)),by rw [yL.out];exact dF (ak ui.out u4.out) _⟩
       case measure=>simp [intOf];omega
      ·have HZ:=BO hz
       have HF:=BO (eM xQ.out HL.out (j+1) (by rw [HX.out,dm];unfold ff at hz;have:=of_decide_eq_true hz;simp at this ⊢;intros;simpa using this))
       clear hz
       go_wp2_with (go_at_call 48;refine wD.out.mono ?_;rintro e4 w4 ⟨rfl,hk5⟩;have ui:=BO hk5;clear hk5 b0 bf x0 x1 x2 x3 x4 x5 x6;obtain⟨x0,x1,x2,x3,x4,x5,x6⟩:=aB (ak ui.out ub.out);obtain⟨z0,z1,z2,z3,zf⟩:=fq (ak ui.out u4.out);first|rw [HZ.out]at z1|rw [HZ.out]at z2|rw [HZ.out]at z3)
       go_ret
       rw [HF.out]
       exact⟨rfl,wC.out.trans ui.out (fun _ h=>h.elim)⟩
   ·obtain rfl:j=N:=by omega
    have HF:=BO (nt xQ.out HL.out (show em c sets=true by rw [←vI.out,List.take_of_length_le (Nat.le_of_eq HN.out)]))
    have hlt2:¬(j:Int)<(j:Int):=by omega
    go_wp2_with fail
    go_ret
    rw [HF.out]
    exact⟨rfl,v6.out.trans xh.out (fun k h=>.inr (h▸vb.out))⟩
 ·have HL:=BO (show ¬sets.length≤3 by omega)
  have hl2:(N:Int) > 3:=by omega
  clear hm hN
  go_wp2_with ((go_at_call 31;refine wU.out.mono ?_;rw [HM.out];rintro e1 w1 ⟨rfl,hk2⟩;have tC:=BO hk2;clear hk2 b0 bf))
  go_ret
  rw [qH xQ.out HL.out]
  exact⟨rfl,tr.out.trans tC.out (fun _ h=>h.elim)⟩
end Go.Proofs.YtdobimafhbfkhaaGreat
