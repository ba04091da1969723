/- Whether sets may be a table's (row.CheckSets). (printed by genok3.py) -/
import Derived.Test.YtdobimafhbfkhaaGreatOB11
set_option maxHeartbeats 64000000
namespace Go.Proofs.YtdobimafhbfkhaaGreat
open Go.ChangeShapes Go.WideShapes Go.ChangeAt Go.RowKit
set_option maxRecDepth 100000
set_option linter.unusedSimpArgs false
abbrev tMet : TypeId:=115
abbrev SetsRd (w:World)(v:Value)(l:List SetM):Prop:=Rd w 7 v l.length (l.flatMap SetM.cells)
abbrev SetsAt (D:PH)(v:Value)(l:List SetM):Prop:=RdP D 7 v l.length (l.flatMap SetM.cells)
def fw (l:List SetM)(i:Nat):Bool:=decide ((i:Int)∈l.map SetM.col)
def fO (l:List SetM):Array Value:=#[.bool (fw l 0),.bool (fw l 1),.bool (fw l 2),.bool (fw l 3)]
theorem lE {c:List Bool}{s:SetM}(hm:cO c=true)(h:aW c s=true):s.col=1∨s.col=2∨s.col=3:=by
 have h4:c.length≤4:=by unfold cO at hm;simp at hm;exact hm.2
 unfold aW at h
 split at h
 ·cases h
 ·next hn =>
  have h1:¬s.col<1:=fun e=>hn (.inl e)
  have h2:¬az c s.col=0:=fun e=>hn (.inr e)
  have h3:¬(s.col<0∨(c.length:Int)≤s.col):=fun e=>h2 (by unfold az;rw [if_pos e])
  omega
theorem i9 (l:List SetM)(s:SetM)(i:Nat):fw (l ++ [s]) i=(fw l i||decide ((i:Int)=s.col)):=by
 unfold fw
 rw [List.map_append,Bool.eq_iff_iff]
 simp
theorem qr (l:List SetM)(s:SetM):mo (l ++ [s])=(mo l && !decide (s.col∈l.map SetM.col)):=by
 unfold mo
 rw [List.map_append,Bool.eq_iff_iff]
 simp only [decide_eq_true_eq,Bool.and_eq_true,Bool.not_eq_true',decide_eq_false_iff_not,List.nodup_append,List.map_cons,List.map_nil]
 constructor
 ·rintro⟨h1,_,h2⟩
  exact⟨h1,fun hm=>h2 _ hm _ (List.mem_cons_self ..) rfl⟩
 ·rintro⟨h1,h2⟩
  exact⟨h1,by simp,fun a ha b hb e=>by simp at hb;subst hb;subst e;exact h2 ha⟩
def eq (c:List Bool)(l:List SetM):Bool:=l.all (aW c)&&mo l
theorem dw (c:List Bool)(l:List SetM)(s:SetM):eq c (l ++ [s])=(eq c l&&(aW c s && !decide (s.col∈l.map SetM.col))):=by
 unfold eq
 rw [List.all_append,qr]
 simp only [List.all_cons,List.all_nil,Bool.and_true]
 cases l.all (aW c)<;>cases mo l<;>cases aW c s<;>simp
theorem iL (c:List Bool):∀(m l:List SetM),eq c l=false→eq c (l++m)=false
 | [],l,h=>by simpa using h
 | s::m,l,h=>by
  have:l++s::m=(l ++ [s])++m:=by simp
  rw [this]
  exact iL c m _ (by rw [dw,h];rfl)
theorem pL {c:List Bool}{l:List SetM}(n:Nat)(h:eq c (l.take n)=false):eq c l=false:=by
 have:=iL c (l.drop n) _ h
 rwa [List.take_append_drop]at this
theorem ox {c:List Bool}{l:List SetM}(h1:cO c=true)(h2:l.length≤3):dn c l=eq c l:=by
 unfold dn eq
 rw [h1,decide_eq_true h2]
 simp
theorem pM {l:List SetM}{s:SetM}(h:s.col=1):fO (l ++ [s])=(fO l).setIfInBounds 1 (.bool true):=by unfold fO;simp [i9,h]
theorem pF {l:List SetM}{s:SetM}(h:s.col=2):fO (l ++ [s])=(fO l).setIfInBounds 2 (.bool true):=by unfold fO;simp [i9,h]
theorem pn {l:List SetM}{s:SetM}(h:s.col=3):fO (l ++ [s])=(fO l).setIfInBounds 3 (.bool true):=by unfold fO;simp [i9,h]
theorem fu {w:World}{b:Nat}{l:List SetM}{t:TypeId}(h:w.heap[b]?=some (.cells (fO l) t (0,0))) :
  w.cell? ⟨b,0,none⟩=some (.bool (fw l 0))∧w.cell? ⟨b,1,none⟩=some (.bool (fw l 1))∧w.cell? ⟨b,2,none⟩=some (.bool (fw l 2))∧w.cell? ⟨b,3,none⟩=some (.bool (fw l 3))∧(∀j,w.frozen? ⟨b,j,none⟩=false):=fH h
def dZ (c:List Bool)(l:List SetM):Int:=if cO c then (if dn c l then 0 else 20)else 1
theorem rm {c:List Bool}{l:List SetM}(h1:cO c=true)(h2:¬l.length≤3):dZ c l=20:=by
 unfold dZ dn
 rw [h1,decide_eq_false h2]
 simp
theorem eW {c:List Bool}{l:List SetM}(h1:cO c=true)(h2:l.length≤3)(n:Nat)(h:eq c (l.take n)=false):dZ c l=20:=by
 unfold dZ
 rw [ox h1 h2,pL n h,h1]
 simp
theorem nm {c:List Bool}{l:List SetM}(h1:cO c=true)(h2:l.length≤3)(h:eq c l=true):dZ c l=0:=by
 unfold dZ
 rw [ox h1 h2,h,h1]
 simp
theorem fW {w:World}{cv sv:Value}{c:List Bool}{sets:List SetM}(hc:bC w cv c)(hr:SetsRd w sv sets) :
  Calls Tryz.prog 34 #[.agg #[cv],sv] w fun e w'=>e = .returned (.int .i64 (dZ c sets))∧Kept (fun _=>False) w w':=by
 have hk1:Kept (fun _=>False) w (w.alloc (.cells #[cv] bH)):=(Kept.refl _ _).alloc _
 have hb1:(w.alloc (.cells #[cv] bH)).heap[w.heap.size]?=some (.cells #[cv] bH (0,0)):=au w _
 have HC:=B5 (Rd.kept hc hk1 (fun _ _ h=>h))
 have HR:=B5 (Rd.kept hr hk1 (fun _ _ h=>h))
 have tK:=B5 hk1
 have tF:=B5 hb1
 have yM:=B5 hc
 have A1:=B5 (show Rd w 7 sv sets.length (sets.flatMap SetM.cells)from hr)
 obtain⟨-,m2,ro,rcap,rfl,-⟩:=hr
 clear hk1 hb1 hc
 go_enter Tryz.func34,Tryz.ntmps34
 go_upto_region 1 with (fail)
 obtain⟨W,hW⟩:∃W,W=w.alloc (.cells #[cv] bH):=⟨_,rfl⟩
 rw [←hW]at HC HR tK tF ⊢
 generalize w.heap.size=bt at tF ⊢
 clear hW
 obtain⟨b0,bf⟩:=av tF.out
 have xn:=B5 (fm HC.out)
 cases hm:cO c
 ·have HM:=B5 (show chk c=1 by simp [chk,hm])
  have HF:=B5 (show dZ c sets=1 by simp [dZ,hm])
  clear hm
  go_wp2_with ((go_at_call 31;refine xn.out.mono ?_;rw [HM.out];rintro e1 w1 ⟨rfl,hk2⟩;have tX:=B5 hk2;clear hk2 b0 bf))
  go_ret
  rw [HF.out]
  exact⟨rfl,tK.out.trans tX.out (fun _ h=>h.elim)⟩
 have HM:=B5 (show chk c=0 by simp [chk,hm])
 have ya:=B5 hm
 obtain⟨N,hN⟩:∃N,sets.length=N:=⟨_,rfl⟩
 unfold maxLen at m2
 rw [hN]at HR A1 m2 ⊢
 have HN:=B5 hN
 by_cases hl:N≤3
 ·have HL:=B5 (show sets.length≤3 by omega)
  have hl2:¬((N:Int) > 3):=by omega
  clear hm hN
  go_upto_region 4 with ((go_at_call 31;refine xn.out.mono ?_;rw [HM.out];rintro e1 w1 ⟨rfl,hk2⟩;have tX:=B5 hk2;clear hk2 b0 bf))
  obtain⟨W2,hW2,hk3,hb2⟩:∃W,W=w1.alloc (.cells (fO []) tMet)∧Kept (fun _=>False) w1 W∧W.heap[w1.heap.size]?=some (.cells (fO []) tMet (0,0)):=⟨_,rfl,(Kept.refl _ _).alloc _,au _ _⟩
  have xp:=B5 (show w1.alloc (.cells #[.bool false,.bool false,.bool false,.bool false] tMet)=W2 from hW2.symm)
  have vr:=B5 (show w.heap.size≤w1.heap.size from Nat.le_trans tK.out.size tX.out.size)
  have wt:=B5 ((tK.out.trans tX.out (fun _ h=>h.elim)).trans hk3 (fun _ h=>h.elim))
  have hkw:=tX.out.trans hk3 (fun _ h=>h.elim)
  have A2:=B5 (ak hkw tF.out)
  have Al:=B5 hb2
  have wi:=B5 (show bt≠w1.heap.size from Nat.ne_of_lt (Nat.lt_of_lt_of_le (ax tF.out) tX.out.size))
  clear hW2 hk3 hb2 hkw HC HR tK tX xn HM tF
  go_upto_region 7 with fail
  rw [xp.out]
  clear xp
  generalize hbm:w1.heap.size=bm at Al wi vr ⊢
  clear hbm
  go_wp2_with fail
  go_loopw [19] (fun idx wr=>∃j:Nat,idx = .int .i64 j∧j≤N∧eq c (sets.take j)=true∧Kept (fun k=>k=bm) W2 wr∧wr.heap[bm]?=some (.cells (fO (sets.take j)) tMet (0,0))) (fun idx _=>N-(intOf idx).toNat)
  case atStart=>exact⟨0,rfl,Nat.zero_le _,rfl,Kept.refl _ _,Al.out⟩
  case round =>
   obtain⟨j,rfl,hj,hno,hkr,hbr⟩:=hrel
   have xC:=B5 hkr
   have yL:=B5 (wt.out.trans hkr (fun k h=>.inr (h▸vr.out)))
   have vU:=B5 hno
   have yN:=B5 hbr
   clear hkr hno hbr Al
   by_cases hlt:j<N
   ·obtain⟨x,hx⟩:∃x,sets[j]?=some x:=⟨sets[j]'(by rw [HN.out];exact hlt),List.getElem?_eq_getElem _⟩
    have HX:=B5 (show sets.take (j+1)=sets.take j ++ [x] by rw [List.take_add_one,hx];rfl)
    obtain⟨g1,o1,rfl,hr1⟩:=bJ SetM.len (Rd.kept A1.out yL.out (fun _ _ h=>h)) hx HN.out
    have xO:=B5 (pW hr1)
    obtain⟨W3,hW3,hk3,hb3⟩:∃W,W=wr.alloc (.cells x.cells.toArray cH)∧Kept (fun _=>False) wr W∧W.heap[wr.heap.size]?=some (.cells x.cells.toArray cH (0,0)):=⟨_,rfl,(Kept.refl _ _).alloc _,au _ _⟩
    have yW:=B5 hW3
    have uy:=B5 hb3
    have vk:=B5 (ak hk3 yN.out)
    have uF:=B5 (xC.out.trans hk3 (fun _ h=>h.elim))
    have wR:=B5 (yL.out.trans hk3 (fun _ h=>h.elim))
    have Am:=B5 ((uF.out.block _ (ax A2.out) wi.out).trans A2.out)
    have yX:=B5 (show bm≠wr.heap.size from Nat.ne_of_lt (ax yN.out))
    have hib:(j:Int)<(N:Int):=by omega
    have HI:=B5 hib
    clear hx hr1 hW3 hk3 hb3 yN xC
    go_upto_region 10 with (first|(refine bF rfl _ _ rfl _ _ rfl _ xO.out ?_)|(refine cS rfl _ _ _ rfl x.cells _ _ rfl rfl (by kernel_rfl) rfl (SetM.one x) ?_))
    rw [←yW.out]
    clear yW xO
    generalize wr.heap.size=bs at uy yX ⊢
    have wS:=B5 (ri (Rd.kept yM.out wR.out (fun _ _ h=>h)) x)
    obtain⟨b0,bf⟩:=av Am.out
    obtain⟨x0,x1,x2,x3,x4,x5,x6⟩:=aB uy.out
    cases hy:aW c x
    ·rw [hy]at wS
     have HF:=B5 (eW ya.out HL.out (j+1) (by rw [HX.out,dw,hy];simp))
     clear hy
     go_wp2_with (go_at_call 48;refine wS.out.mono ?_;rintro e4 w4 ⟨rfl,hk5⟩;have uD:=B5 hk5;clear hk5 b0 bf x0 x1 x2 x3 x4 x5 x6)
     go_ret
     rw [HF.out]
     exact⟨rfl,wR.out.trans uD.out (fun _ h=>h.elim)⟩
    ·rw [hy]at wS
     have HY:=B5 hy
     obtain⟨col,op,frm,oth,v⟩:=x
     have hcol:=lE ya.out hy
     simp only at hcol
     clear hy
     rcases hcol with rfl|rfl|rfl
     ·cases hz:fw (sets.take j) 1
      ·have HZ:=B5 hz
       have vV:=B5 (show eq c (sets.take (j+1))=true by rw [HX.out,dw,vU.out,HY.out];unfold fw at hz;simpa using hz)
       have yY:=B5 (show fO (sets.take (j+1))=(fO (sets.take j)).setIfInBounds 1 (.bool true) by rw [HX.out,pM rfl])
       clear hz
       go_wp2_with (go_at_call 48;refine wS.out.mono ?_;rintro e4 w4 ⟨rfl,hk5⟩;have uD:=B5 hk5;clear hk5 b0 bf x0 x1 x2 x3 x4 x5 x6;obtain⟨x0,x1,x2,x3,x4,x5,x6⟩:=aB (ak uD.out uy.out);obtain⟨z0,z1,z2,z3,zf⟩:=fu (ak uD.out vk.out);first|rw [HZ.out]at z1|rw [HZ.out]at z2|rw [HZ.out]at z3)
       go_roundw
       case rel=>exact⟨j+1,by go_num,by omega,vV.out,((uF.out.trans uD.out (fun _ h=>h.elim)).setCell ⟨bm,1,none⟩ _ (.inl rfl)),by rw [yY.out];exact dH (ak uD.out vk.out) _⟩
       case measure=>simp [intOf];omega
      ·have HZ:=B5 hz
       have HF:=B5 (eW ya.out HL.out (j+1) (by rw [HX.out,dw];unfold fw at hz;have:=of_decide_eq_true hz;simp at this ⊢;intros;simpa using this))
       clear hz
       go_wp2_with (go_at_call 48;refine wS.out.mono ?_;rintro e4 w4 ⟨rfl,hk5⟩;have uD:=B5 hk5;clear hk5 b0 bf x0 x1 x2 x3 x4 x5 x6;obtain⟨x0,x1,x2,x3,x4,x5,x6⟩:=aB (ak uD.out uy.out);obtain⟨z0,z1,z2,z3,zf⟩:=fu (ak uD.out vk.out);first|rw [HZ.out]at z1|rw [HZ.out]at z2|rw [HZ.out]at z3)
       go_ret
       rw [HF.out]
       exact⟨rfl,wR.out.trans uD.out (fun _ h=>h.elim)⟩
     ·cases hz:fw (sets.take j) 2
      ·have HZ:=B5 hz
       have vV:=B5 (show eq c (sets.take (j+1))=true by rw [HX.out,dw,vU.out,HY.out];unfold fw at hz;simpa using hz)
       have yY:=B5 (show fO (sets.take (j+1))=(fO (sets.take j)).setIfInBounds 2 (.bool true) by rw [HX.out,pF rfl])
       clear hz
       go_wp2_with (go_at_call 48;refine wS.out.mono ?_;rintro e4 w4 ⟨rfl,hk5⟩;have uD:=B5 hk5;clear hk5 b0 bf x0 x1 x2 x3 x4 x5 x6;obtain⟨x0,x1,x2,x3,x4,x5,x6⟩:=aB (ak uD.out uy.out);obtain⟨z0,z1,z2,z3,zf⟩:=fu (ak uD.out vk.out);first|rw [HZ.out]at z1|rw [HZ.out]at z2|rw [HZ.out]at z3)
       go_roundw
       case rel=>exact⟨j+1,by go_num,by omega,vV.out,((uF.out.trans uD.out (fun _ h=>h.elim)).setCell ⟨bm,2,none⟩ _ (.inl rfl)),by rw [yY.out];exact dH (ak uD.out vk.out) _⟩
       case measure=>simp [intOf];omega
      ·have HZ:=B5 hz
       have HF:=B5 (eW ya.out HL.out (j+1) (by rw [HX.out,dw];unfold fw at hz;have:=of_decide_eq_true hz;simp at this ⊢;intros;simpa using this))
       clear hz
       go_wp2_with (go_at_call 48;refine wS.out.mono ?_;rintro e4 w4 ⟨rfl,hk5⟩;have uD:=B5 hk5;clear hk5 b0 bf x0 x1 x2 x3 x4 x5 x6;obtain⟨x0,x1,x2,x3,x4,x5,x6⟩:=aB (ak uD.out uy.out);obtain⟨z0,z1,z2,z3,zf⟩:=fu (ak uD.out vk.out);first|rw [HZ.out]at z1|rw [HZ.out]at z2|rw [HZ.out]at z3)
       go_ret
       rw [HF.out]
       exact⟨rfl,wR.out.trans uD.out (fun _ h=>h.elim)⟩
     ·cases hz:fw (sets.take j) 3
      ·have HZ:=B5 hz
       have vV:=B5 (show eq c (sets.take (j+1))=true by rw [HX.out,dw,vU.out,HY.out];unfold fw at hz;simpa using hz)
       have yY:=B5 (show fO (sets.take (j+1))=(fO (sets.take j)).setIfInBounds 3 (.bool true) by rw [HX.out,pn rfl])
       clear hz
       go_wp2_with (go_at_call 48;refine wS.out.mono ?_;rintro e4 w4 ⟨rfl,hk5⟩;have uD:=B5 hk5;clear hk5 b0 bf x0 x1 x2 x3 x4 x5 x6;obtain⟨x0,x1,x2,x3,x4,x5,x6⟩:=aB (ak uD.out uy.out);obtain⟨z0,z1,z2,z3,zf⟩:=fu (ak uD.out vk.out);first|rw [HZ.out]at z1|rw [HZ.out]at z2|rw [HZ.out]at z3)
       go_roundw
       case rel=>exact⟨j+1,by go_num,by omega,vV.out,((uF.out.trans uD.out (fun _ h=>h.elim)).setCell ⟨bm,3,none⟩ _ (.inl rfl)),by rw [yY.out];exact dH (ak uD.out vk.out) _⟩
       case measure=>simp [intOf];omega
      ·have HZ:=B5 hz
       have HF:=B5 (eW ya.out HL.out (j+1) (by rw [HX.out,dw];unfold fw at hz;have:=of_decide_eq_true hz;simp at this ⊢;intros;simpa using this))
       clear hz
       go_wp2_with (go_at_call 48;refine wS.out.mono ?_;rintro e4 w4 ⟨rfl,hk5⟩;have uD:=B5 hk5;clear hk5 b0 bf x0 x1 x2 x3 x4 x5 x6;obtain⟨x0,x1,x2,x3,x4,x5,x6⟩:=aB (ak uD.out uy.out);obtain⟨z0,z1,z2,z3,zf⟩:=fu (ak uD.out vk.out);first|rw [HZ.out]at z1|rw [HZ.out]at z2|rw [HZ.out]at z3)
       go_ret
       rw [HF.out]
       exact⟨rfl,wR.out.trans uD.out (fun _ h=>h.elim)⟩
   ·obtain rfl:j=N:=by omega
    have HF:=B5 (nm ya.out HL.out (show eq c sets=true by rw [←vU.out,List.take_of_length_le (Nat.le_of_eq HN.out)]))
    have hlt2:¬(j:Int)<(j:Int):=by omega
    go_wp2_with fail
    go_ret
    rw [HF.out]
    exact⟨rfl,wt.out.trans xC.out (fun k h=>.inr (h▸vr.out))⟩
 ·have HL:=B5 (show ¬sets.length≤3 by omega)
  have hl2:(N:Int) > 3:=by omega
  clear hm hN
  go_wp2_with ((go_at_call 31;refine xn.out.mono ?_;rw [HM.out];rintro e1 w1 ⟨rfl,hk2⟩;have tX:=B5 hk2;clear hk2 b0 bf))
  go_ret
  rw [rm ya.out HL.out]
  exact⟨rfl,tK.out.trans tX.out (fun _ h=>h.elim)⟩
end Go.Proofs.YtdobimafhbfkhaaGreat
