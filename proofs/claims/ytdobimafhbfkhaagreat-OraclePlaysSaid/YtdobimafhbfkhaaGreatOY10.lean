/- Whether a set may be (row.may), and what follows. -/
import Derived.Test.YtdobimafhbfkhaaGreatOY9
set_option maxHeartbeats 64000000
namespace Go.Proofs.YtdobimafhbfkhaaGreat
open Go.ChangeShapes Go.WideShapes Go.ChangeAt Go.RowKit
set_option maxRecDepth 100000
set_option linter.unusedSimpArgs false
theorem ti {w:World}{cv:Value}{c:List Bool}(h:fH w cv c)(s:SetM) :
  Calls Tryz.prog 48 #[.agg #[cv],.agg s.cells.toArray] w fun e w'=>e = .returned (.bool (bH c s))∧Kept (fun _=>False) w w':=by
 obtain⟨W1,hW1,hk1,hb1,hb2⟩:=sQ w #[cv] s.cells.toArray bN kl;have HC:=FH (Rd.kept h hk1 (fun _ _ h=>h));have HQ:=FH (show ∀i W,Kept (fun _=>False) W1 W→Calls Tryz.prog 67 #[.agg #[cv],.int .i64 i] W fun e w'=>e = .returned (.int .i64 (bK c i))∧Kept (fun _=>False) W w' from fun i W k=>rh (Rd.kept HC.out k (fun _ _ h=>h)) i);have HV:=FH (cP s.v);have wM:=FH hW1;have wL:=FH hb1;have wX:=FH hb2;have yL:=FH hk1;have HK:=FH (Kept.refl (fun _=>False) W1);obtain⟨rr,hrr⟩:∃r,bH c s=r:=⟨_,rfl⟩;rw [hrr];unfold bH at hrr;have q1:=gJ c s.col;have q2:=gJ c s.frm;have q3:=gJ c s.oth;obtain⟨k1,e1⟩:∃k,bK c s.col=k:=⟨_,rfl⟩;obtain⟨k2,e2⟩:∃k,bK c s.frm=k:=⟨_,rfl⟩;obtain⟨k3,e3⟩:∃k,bK c s.oth=k:=⟨_,rfl⟩;obtain⟨rv,er⟩:∃r,am s.v=r:=⟨_,rfl⟩;rw [e1]at q1;rw [e2]at q2;rw [e3]at q3;rw [er]at HV;rw [e1,e2,e3,er]at hrr;have H1:=FH e1;have H2:=FH e2;have H3:=FH e3;clear hW1 hk1 hb1 hb2 HC h e1 e2 e3 er;go_enter Tryz.func48,Tryz.ntmps48;go_upto_region 1 with fail
 rw [←wM.out];clear wM;generalize w.heap.size+1=bs at wX ⊢;generalize w.heap.size=bt at wL ⊢;obtain⟨b0,bf⟩:=aC wL.out;obtain⟨x0,x1,x2,x3,x4,x5,x6⟩:=bP wX.out;go_upto_region 2 with (go_at_call 67;refine(HQ.out _ _ HK.out).mono ?_;(first|(rw [H1.out])|(rw [H2.out])|(rw [H3.out]));rintro e1 w1 ⟨rfl,hk2⟩;replace HK:=FH (HK.out.trans hk2 (fun _ h=>h.elim));clear hk2 b0 bf x0 x1 x2 x3 x4 x5 x6;obtain⟨b0,bf⟩:=aC (aA HK.out wL.out);obtain⟨x0,x1,x2,x3,x4,x5,x6⟩:=bP (aA HK.out wX.out))
 by_cases hc:s.col<1
 ·clear q1 q2 q3
  go_wp2_with (first|(go_at_call 67;refine(HQ.out _ _ HK.out).mono ?_;(first|(rw [H1.out])|(rw [H2.out])|(rw [H3.out]));rintro e1 w1 ⟨rfl,hk2⟩;replace HK:=FH (HK.out.trans hk2 (fun _ h=>h.elim));clear hk2 b0 bf x0 x1 x2 x3 x4 x5 x6;obtain⟨b0,bf⟩:=aC (aA HK.out wL.out);obtain⟨x0,x1,x2,x3,x4,x5,x6⟩:=bP (aA HK.out wX.out))|(go_at_call 32;refine(HV.out _).mono ?_;rintro e1 w1 ⟨rfl,hk2⟩;replace HK:=FH (HK.out.trans hk2 (fun _ h=>h.elim));clear hk2 b0 bf x0 x1 x2 x3 x4 x5 x6;obtain⟨b0,bf⟩:=aC (aA HK.out wL.out);obtain⟨x0,x1,x2,x3,x4,x5,x6⟩:=bP (aA HK.out wX.out)));go_ret;refine⟨?_,yL.out.trans HK.out (fun _ h=>h.elim)⟩;rw [←hrr]
  first|rfl|simp [*]
 rcases q1 with rfl|q1
 ·clear q2 q3
  go_wp2_with (first|(go_at_call 67;refine(HQ.out _ _ HK.out).mono ?_;(first|(rw [H1.out])|(rw [H2.out])|(rw [H3.out]));rintro e1 w1 ⟨rfl,hk2⟩;replace HK:=FH (HK.out.trans hk2 (fun _ h=>h.elim));clear hk2 b0 bf x0 x1 x2 x3 x4 x5 x6;obtain⟨b0,bf⟩:=aC (aA HK.out wL.out);obtain⟨x0,x1,x2,x3,x4,x5,x6⟩:=bP (aA HK.out wX.out))|(go_at_call 32;refine(HV.out _).mono ?_;rintro e1 w1 ⟨rfl,hk2⟩;replace HK:=FH (HK.out.trans hk2 (fun _ h=>h.elim));clear hk2 b0 bf x0 x1 x2 x3 x4 x5 x6;obtain⟨b0,bf⟩:=aC (aA HK.out wL.out);obtain⟨x0,x1,x2,x3,x4,x5,x6⟩:=bP (aA HK.out wX.out)));go_ret;refine⟨?_,yL.out.trans HK.out (fun _ h=>h.elim)⟩;rw [←hrr]
  first|rfl|simp [*]
 by_cases o1:s.op=1
 ·have HO:=FH o1
  clear q2 q3;rcases q1 with rfl|rfl<;>cases rv
  all_goals
   rw [HO.out]at x1;go_wp2_with (first|(go_at_call 67;refine(HQ.out _ _ HK.out).mono ?_;(first|(rw [H1.out])|(rw [H2.out])|(rw [H3.out]));rintro e1 w1 ⟨rfl,hk2⟩;replace HK:=FH (HK.out.trans hk2 (fun _ h=>h.elim));clear hk2 b0 bf x0 x1 x2 x3 x4 x5 x6;obtain⟨b0,bf⟩:=aC (aA HK.out wL.out);obtain⟨x0,x1,x2,x3,x4,x5,x6⟩:=bP (aA HK.out wX.out))|(go_at_call 32;refine(HV.out _).mono ?_;rintro e1 w1 ⟨rfl,hk2⟩;replace HK:=FH (HK.out.trans hk2 (fun _ h=>h.elim));clear hk2 b0 bf x0 x1 x2 x3 x4 x5 x6;obtain⟨b0,bf⟩:=aC (aA HK.out wL.out);obtain⟨x0,x1,x2,x3,x4,x5,x6⟩:=bP (aA HK.out wX.out)));go_ret;refine⟨?_,yL.out.trans HK.out (fun _ h=>h.elim)⟩;rw [←hrr]
   first|rfl|simp [*]
 by_cases o2:s.op=2
 ·clear q3
  rcases q1 with rfl|rfl<;>rcases q2 with rfl|rfl|rfl
  all_goals
   rw [o2]at x1;go_wp2_with (first|(go_at_call 67;refine(HQ.out _ _ HK.out).mono ?_;(first|(rw [H1.out])|(rw [H2.out])|(rw [H3.out]));rintro e1 w1 ⟨rfl,hk2⟩;replace HK:=FH (HK.out.trans hk2 (fun _ h=>h.elim));clear hk2 b0 bf x0 x1 x2 x3 x4 x5 x6;obtain⟨b0,bf⟩:=aC (aA HK.out wL.out);obtain⟨x0,x1,x2,x3,x4,x5,x6⟩:=bP (aA HK.out wX.out))|(go_at_call 32;refine(HV.out _).mono ?_;rintro e1 w1 ⟨rfl,hk2⟩;replace HK:=FH (HK.out.trans hk2 (fun _ h=>h.elim));clear hk2 b0 bf x0 x1 x2 x3 x4 x5 x6;obtain⟨b0,bf⟩:=aC (aA HK.out wL.out);obtain⟨x0,x1,x2,x3,x4,x5,x6⟩:=bP (aA HK.out wX.out)));go_ret;refine⟨?_,yL.out.trans HK.out (fun _ h=>h.elim)⟩;rw [←hrr]
   first|rfl|simp [*]
 by_cases o3:s.op=3∨s.op=4∨s.op=5
 ·clear q3
  have q4:(k1=1∧k2=0)∨(k1=1∧k2=1∧rv=false)∨(k1=1∧k2=1∧rv=true)∨(k1=1∧k2=2)∨k1=2:=by rcases q1 with g|g<;>rcases q2 with h|h|h<;>cases rv<;>simp [g,h]
  rcases o3 with o3|o3|o3<;>rcases q4 with ⟨rfl,rfl⟩|⟨rfl,rfl,rfl⟩|⟨rfl,rfl,rfl⟩|⟨rfl,rfl⟩|rfl
  all_goals
   rw [o3]at x1;go_wp2_with (first|(go_at_call 67;refine(HQ.out _ _ HK.out).mono ?_;(first|(rw [H1.out])|(rw [H2.out])|(rw [H3.out]));rintro e1 w1 ⟨rfl,hk2⟩;replace HK:=FH (HK.out.trans hk2 (fun _ h=>h.elim));clear hk2 b0 bf x0 x1 x2 x3 x4 x5 x6;obtain⟨b0,bf⟩:=aC (aA HK.out wL.out);obtain⟨x0,x1,x2,x3,x4,x5,x6⟩:=bP (aA HK.out wX.out))|(go_at_call 32;refine(HV.out _).mono ?_;rintro e1 w1 ⟨rfl,hk2⟩;replace HK:=FH (HK.out.trans hk2 (fun _ h=>h.elim));clear hk2 b0 bf x0 x1 x2 x3 x4 x5 x6;obtain⟨b0,bf⟩:=aC (aA HK.out wL.out);obtain⟨x0,x1,x2,x3,x4,x5,x6⟩:=bP (aA HK.out wX.out)));go_ret;refine⟨?_,yL.out.trans HK.out (fun _ h=>h.elim)⟩;rw [←hrr]
   first|rfl|simp [*]
 have p3:¬s.op=3:=by omega
 have p4:¬s.op=4:=by omega
 have p5:¬s.op=5:=by omega
 by_cases o6:s.op=6
 ·have q4:(k1=1∧k2=0)∨(k1=1∧k2=1∧k3=0)∨(k1=1∧k2=1∧k3=1)∨(k1=1∧k2=1∧k3=2)∨(k1=1∧k2=2)∨k1=2:=by omega
  rcases q4 with ⟨rfl,rfl⟩|⟨rfl,rfl,rfl⟩|⟨rfl,rfl,rfl⟩|⟨rfl,rfl,rfl⟩|⟨rfl,rfl⟩|rfl
  all_goals
   rw [o6]at x1;go_wp2_with (first|(go_at_call 67;refine(HQ.out _ _ HK.out).mono ?_;(first|(rw [H1.out])|(rw [H2.out])|(rw [H3.out]));rintro e1 w1 ⟨rfl,hk2⟩;replace HK:=FH (HK.out.trans hk2 (fun _ h=>h.elim));clear hk2 b0 bf x0 x1 x2 x3 x4 x5 x6;obtain⟨b0,bf⟩:=aC (aA HK.out wL.out);obtain⟨x0,x1,x2,x3,x4,x5,x6⟩:=bP (aA HK.out wX.out))|(go_at_call 32;refine(HV.out _).mono ?_;rintro e1 w1 ⟨rfl,hk2⟩;replace HK:=FH (HK.out.trans hk2 (fun _ h=>h.elim));clear hk2 b0 bf x0 x1 x2 x3 x4 x5 x6;obtain⟨b0,bf⟩:=aC (aA HK.out wL.out);obtain⟨x0,x1,x2,x3,x4,x5,x6⟩:=bP (aA HK.out wX.out)));go_ret;refine⟨?_,yL.out.trans HK.out (fun _ h=>h.elim)⟩;rw [←hrr]
   first|rfl|simp [*]
 clear q2 q3;rcases q1 with rfl|rfl
 all_goals
  go_wp2_with (first|(go_at_call 67;refine(HQ.out _ _ HK.out).mono ?_;(first|(rw [H1.out])|(rw [H2.out])|(rw [H3.out]));rintro e1 w1 ⟨rfl,hk2⟩;replace HK:=FH (HK.out.trans hk2 (fun _ h=>h.elim));clear hk2 b0 bf x0 x1 x2 x3 x4 x5 x6;obtain⟨b0,bf⟩:=aC (aA HK.out wL.out);obtain⟨x0,x1,x2,x3,x4,x5,x6⟩:=bP (aA HK.out wX.out))|(go_at_call 32;refine(HV.out _).mono ?_;rintro e1 w1 ⟨rfl,hk2⟩;replace HK:=FH (HK.out.trans hk2 (fun _ h=>h.elim));clear hk2 b0 bf x0 x1 x2 x3 x4 x5 x6;obtain⟨b0,bf⟩:=aC (aA HK.out wL.out);obtain⟨x0,x1,x2,x3,x4,x5,x6⟩:=bP (aA HK.out wX.out)));go_ret;refine⟨?_,yL.out.trans HK.out (fun _ h=>h.elim)⟩;rw [←hrr]
  first|rfl|simp [*]
abbrev tMet : TypeId:=115
abbrev vA (w:World)(v:Value)(l:List SetM):Prop:=Rd w 7 v l.length (l.flatMap SetM.cells)
abbrev SetsAt (D:PH)(v:Value)(l:List SetM):Prop:=RdP D 7 v l.length (l.flatMap SetM.cells)
def gd (l:List SetM)(i:Nat):Bool:=decide ((i:Int)∈l.map SetM.col)
def hU (l:List SetM):Array Value:=#[.bool (gd l 0),.bool (gd l 1),.bool (gd l 2),.bool (gd l 3)]
theorem kr {c:List Bool}{s:SetM}(hm:cj c=true)(h:bH c s=true):s.col=1∨s.col=2∨s.col=3:=by
 have h4:c.length≤4:=by unfold cj at hm;simp at hm;exact hm.2
 unfold bH at h;split at h
 ·cases h
 ·next hn =>
  have h1:¬s.col<1:=fun e=>hn (.inl e);have h2:¬bK c s.col=0:=fun e=>hn (.inr e);have h3:¬(s.col<0∨(c.length:Int)≤s.col):=fun e=>h2 (by unfold bK;rw [if_pos e]);omega
theorem kj (l:List SetM)(s:SetM)(i:Nat):gd (l ++ [s]) i=(gd l i||decide ((i:Int)=s.col)):=by
 unfold gd;rw [List.map_append,Bool.eq_iff_iff];simp
theorem tR (l:List SetM)(s:SetM):nJ (l ++ [s])=(nJ l && !decide (s.col∈l.map SetM.col)):=by
 unfold nJ;rw [List.map_append,Bool.eq_iff_iff];simp only [decide_eq_true_eq,Bool.and_eq_true,Bool.not_eq_true',decide_eq_false_iff_not,List.nodup_append,List.map_cons,List.map_nil]
 constructor
 ·rintro⟨h1,_,h2⟩
  exact⟨h1,fun hm=>h2 _ hm _ (Gc ..) rfl⟩
 ·rintro⟨h1,h2⟩
  exact⟨h1,by simp,fun a ha b hb e=>by simp at hb;subst hb;subst e;exact h2 ha⟩
def eJ (c:List Bool)(l:List SetM):Bool:=l.all (bH c)&&nJ l
theorem du (c:List Bool)(l:List SetM)(s:SetM):eJ c (l ++ [s])=(eJ c l&&(bH c s && !decide (s.col∈l.map SetM.col))):=by
 unfold eJ;rw [List.all_append,tR];simp only [List.all_cons,List.all_nil,Bool.and_true];cases l.all (bH c)<;>cases nJ l<;>cases bH c s<;>simp
theorem jV (c:List Bool):∀(m l:List SetM),eJ c l=false→eJ c (l++m)=false
 | [],l,h=>by simpa using h
 | s::m,l,h=>by
  have:l++s::m=(l ++ [s])++m:=by simp
  rw [this];exact jV c m _ (by rw [du,h];rfl)
theorem jy {c:List Bool}{l:List SetM}(n:Nat)(h:eJ c (l.take n)=false):eJ c l=false:=by
 have:=jV c (l.drop n) _ h
 rwa [Gj]at this
theorem mB {c:List Bool}{l:List SetM}(h1:cj c=true)(h2:l.length≤3):cG c l=eJ c l:=by
 unfold cG eJ;rw [h1,F5 h2];simp
theorem rO {l:List SetM}{s:SetM}(h:s.col=1):hU (l ++ [s])=(hU l).setIfInBounds 1 (.bool true):=by unfold hU;simp [kj,h]
theorem rD {l:List SetM}{s:SetM}(h:s.col=2):hU (l ++ [s])=(hU l).setIfInBounds 2 (.bool true):=by unfold hU;simp [kj,h]
theorem r8 {l:List SetM}{s:SetM}(h:s.col=3):hU (l ++ [s])=(hU l).setIfInBounds 3 (.bool true):=by unfold hU;simp [kj,h]
theorem gp {w:World}{b:Nat}{l:List SetM}{t:TypeId}(h:w.heap[b]?=some (.cells (hU l) t (0,0))) :
  w.cell? ⟨b,0,none⟩=some (.bool (gd l 0))∧w.cell? ⟨b,1,none⟩=some (.bool (gd l 1))∧w.cell? ⟨b,2,none⟩=some (.bool (gd l 2))∧w.cell? ⟨b,3,none⟩=some (.bool (gd l 3))∧(∀j,w.frozen? ⟨b,j,none⟩=false):=gV h
def eK (c:List Bool)(l:List SetM):Int:=if cj c then (if cG c l then 0 else 20)else 1
theorem ud {c:List Bool}{l:List SetM}(h1:cj c=true)(h2:¬l.length≤3):eK c l=20:=by
 unfold eK cG;rw [h1,FY h2];simp
theorem fT {c:List Bool}{l:List SetM}(h1:cj c=true)(h2:l.length≤3)(n:Nat)(h:eJ c (l.take n)=false):eK c l=20:=by
 unfold eK;rw [mB h1 h2,jy n h,h1];simp
theorem qG {c:List Bool}{l:List SetM}(h1:cj c=true)(h2:l.length≤3)(h:eJ c l=true):eK c l=0:=by
 unfold eK;rw [mB h1 h2,h,h1];simp
theorem ig {w:World}{cv sv:Value}{c:List Bool}{sets:List SetM}(hc:fH w cv c)(hr:vA w sv sets) :
  Calls Tryz.prog 34 #[.agg #[cv],sv] w fun e w'=>e = .returned (.int .i64 (eK c sets))∧Kept (fun _=>False) w w':=by
 have hk1:Kept (fun _=>False) w (w.alloc (.cells #[cv] bN)):=(Kept.refl _ _).alloc _;have hb1:(w.alloc (.cells #[cv] bN)).heap[w.heap.size]?=some (.cells #[cv] bN (0,0)):=ak w _;have HC:=FH (Rd.kept hc hk1 (fun _ _ h=>h));have HR:=FH (Rd.kept hr hk1 (fun _ _ h=>h));have wN:=FH hk1;have wL:=FH hb1;have A3:=FH hc;have BL:=FH (show Rd w 7 sv sets.length (sets.flatMap SetM.cells)from hr);obtain⟨-,m2,ro,rcap,rfl,-⟩:=hr;clear hk1 hb1 hc;go_enter Tryz.func34,Tryz.ntmps34;go_upto_region 1 with (fail)
 obtain⟨W,hW⟩:∃W,W=w.alloc (.cells #[cv] bN):=⟨_,rfl⟩;rw [←hW]at HC HR wN wL ⊢;generalize w.heap.size=bt at wL ⊢;clear hW;obtain⟨b0,bf⟩:=aC wL.out;have yM:=FH (gq HC.out);cases hm:cj c
 ·have HM:=FH (show chk c=1 by simp [chk,hm])
  have HF:=FH (show eK c sets=1 by simp [eK,hm]);clear hm;go_wp2_with ((go_at_call 31;refine yM.out.mono ?_;rw [HM.out];rintro e1 w1 ⟨rfl,hk2⟩;have wV:=FH hk2;clear hk2 b0 bf));go_ret;rw [HF.out];exact⟨rfl,wN.out.trans wV.out (fun _ h=>h.elim)⟩
 have HM:=FH (show chk c=0 by simp [chk,hm]);have AG:=FH hm;obtain⟨N,hN⟩:∃N,sets.length=N:=⟨_,rfl⟩;unfold maxLen at m2;rw [hN]at HR BL m2 ⊢;have HN:=FH hN;by_cases hl:N≤3
 ·have HL:=FH (show sets.length≤3 by omega)
  have hl2:¬((N:Int) > 3):=by omega
  clear hm hN;go_upto_region 4 with ((go_at_call 31;refine yM.out.mono ?_;rw [HM.out];rintro e1 w1 ⟨rfl,hk2⟩;have wV:=FH hk2;clear hk2 b0 bf))
  obtain⟨W2,hW2,hk3,hb2⟩:∃W,W=w1.alloc (.cells (hU []) tMet)∧Kept (fun _=>False) w1 W∧W.heap[w1.heap.size]?=some (.cells (hU []) tMet (0,0)):=⟨_,rfl,(Kept.refl _ _).alloc _,ak _ _⟩;have Ah:=FH (show w1.alloc (.cells #[.bool false,.bool false,.bool false,.bool false] tMet)=W2 from hW2.symm);have zi:=FH (show w.heap.size≤w1.heap.size from Gq wN.out.size wV.out.size);have xV:=FH ((wN.out.trans wV.out (fun _ h=>h.elim)).trans hk3 (fun _ h=>h.elim));have hkw:=wV.out.trans hk3 (fun _ h=>h.elim);have Ev:=FH (aA hkw wL.out);have DD:=FH hb2;have zt:=FH (show bt≠w1.heap.size from Nat.ne_of_lt (Nat.lt_of_lt_of_le (aw wL.out) wV.out.size));clear hW2 hk3 hb2 hkw HC HR wN wV yM HM wL;go_upto_region 7 with fail
  rw [Ah.out];clear Ah;generalize hbm:w1.heap.size=bm at DD zt zi ⊢;clear hbm;go_wp2_with fail
  go_loopw [19] (fun idx wr=>∃j:Nat,idx = .int .i64 j∧j≤N∧eJ c (sets.take j)=true∧Kept (fun k=>k=bm) W2 wr∧wr.heap[bm]?=some (.cells (hU (sets.take j)) tMet (0,0))) (fun idx _=>N-(intOf idx).toNat)
  case atStart=>exact⟨0,rfl,Gp _,rfl,Kept.refl _ _,DD.out⟩
  case round =>
   obtain⟨j,rfl,hj,hno,hkr,hbr⟩:=hrel;have zu:=FH hkr;have xY:=FH (xV.out.trans hkr (fun k h=>.inr (h▸zi.out)));have yw:=FH hno;have DE:=FH hbr;clear hkr hno hbr DD;by_cases hlt:j<N
   ·obtain⟨x,hx⟩:∃x,sets[j]?=some x:=⟨sets[j]'(by rw [HN.out];exact hlt),FP _⟩
    have HX:=FH (show sets.take (j+1)=sets.take j ++ [x] by rw [F3,hx];rfl);obtain⟨g1,o1,rfl,hr1⟩:=bi SetM.len (Rd.kept BL.out xY.out (fun _ _ h=>h)) hx HN.out;have zj:=FH (lD hr1);obtain⟨W3,hW3,hk3,hb3⟩:∃W,W=wr.alloc (.cells x.cells.toArray kl)∧Kept (fun _=>False) wr W∧W.heap[wr.heap.size]?=some (.cells x.cells.toArray kl (0,0)):=⟨_,rfl,(Kept.refl _ _).alloc _,ak _ _⟩;have Cy:=FH hW3;have xL:=FH hb3;have zk:=FH (aA hk3 DE.out);have xO:=FH (zu.out.trans hk3 (fun _ h=>h.elim));have AH:=FH (xY.out.trans hk3 (fun _ h=>h.elim));have DF:=FH ((xO.out.block _ (aw Ev.out) zt.out).trans Ev.out);have Cz:=FH (show bm≠wr.heap.size from Nat.ne_of_lt (aw DE.out));have hib:(j:Int)<(N:Int):=by omega
    have HI:=FH hib;clear hx hr1 hW3 hk3 hb3 DE zu;go_upto_region 10 with (first|(refine aV rfl _ _ rfl _ _ rfl _ zj.out ?_)|(refine cI rfl _ _ _ rfl x.cells _ _ rfl rfl (by kernel_rfl) rfl (SetM.one x) ?_))
    rw [←Cy.out];clear Cy zj;generalize wr.heap.size=bs at xL Cz ⊢;have yx:=FH (ti (Rd.kept A3.out AH.out (fun _ _ h=>h)) x);obtain⟨b0,bf⟩:=aC DF.out;obtain⟨x0,x1,x2,x3,x4,x5,x6⟩:=bP xL.out;cases hy:bH c x
    ·rw [hy]at yx
     have HF:=FH (fT AG.out HL.out (j+1) (by rw [HX.out,du,hy];simp));clear hy;go_wp2_with (go_at_call 48;refine yx.out.mono ?_;rintro e4 w4 ⟨rfl,hk5⟩;have xj:=FH hk5;clear hk5 b0 bf x0 x1 x2 x3 x4 x5 x6);go_ret;rw [HF.out];exact⟨rfl,AH.out.trans xj.out (fun _ h=>h.elim)⟩
    ·rw [hy]at yx
     have HY:=FH hy;obtain⟨col,op,frm,oth,v⟩:=x;have hcol:=kr AG.out hy;simp only at hcol;clear hy;rcases hcol with rfl|rfl|rfl
     ·cases hz:gd (sets.take j) 1
      ·have HZ:=FH hz
       have yF:=FH (show eJ c (sets.take (j+1))=true by rw [HX.out,du,yw.out,HY.out];unfold gd at hz;simpa using hz);have CA:=FH (show hU (sets.take (j+1))=(hU (sets.take j)).setIfInBounds 1 (.bool true) by rw [HX.out,rO rfl]);clear hz;go_wp2_with (go_at_call 48;refine yx.out.mono ?_;rintro e4 w4 ⟨rfl,hk5⟩;have xj:=FH hk5;clear hk5 b0 bf x0 x1 x2 x3 x4 x5 x6;obtain⟨x0,x1,x2,x3,x4,x5,x6⟩:=bP (aA xj.out xL.out);obtain⟨z0,z1,z2,z3,zf⟩:=gp (aA xj.out zk.out);first|rw [HZ.out]at z1|rw [HZ.out]at z2|rw [HZ.out]at z3);go_roundw
       case rel=>exact⟨j+1,by go_num,by omega,yF.out,((xO.out.trans xj.out (fun _ h=>h.elim)).setCell ⟨bm,1,none⟩ _ (.inl rfl)),by rw [CA.out];exact ed (aA xj.out zk.out) _⟩
       case measure=>simp [intOf];omega
      ·have HZ:=FH hz
       have HF:=FH (fT AG.out HL.out (j+1) (by rw [HX.out,du];unfold gd at hz;have:=of_decide_eq_true hz;simp at this ⊢;intros;simpa using this));clear hz;go_wp2_with (go_at_call 48;refine yx.out.mono ?_;rintro e4 w4 ⟨rfl,hk5⟩;have xj:=FH hk5;clear hk5 b0 bf x0 x1 x2 x3 x4 x5 x6;obtain⟨x0,x1,x2,x3,x4,x5,x6⟩:=bP (aA xj.out xL.out);obtain⟨z0,z1,z2,z3,zf⟩:=gp (aA xj.out zk.out);first|rw [HZ.out]at z1|rw [HZ.out]at z2|rw [HZ.out]at z3);go_ret;rw [HF.out];exact⟨rfl,AH.out.trans xj.out (fun _ h=>h.elim)⟩
     ·cases hz:gd (sets.take j) 2
      ·have HZ:=FH hz
       have yF:=FH (show eJ c (sets.take (j+1))=true by rw [HX.out,du,yw.out,HY.out];unfold gd at hz;simpa using hz);have CA:=FH (show hU (sets.take (j+1))=(hU (sets.take j)).setIfInBounds 2 (.bool true) by rw [HX.out,rD rfl]);clear hz;go_wp2_with (go_at_call 48;refine yx.out.mono ?_;rintro e4 w4 ⟨rfl,hk5⟩;have xj:=FH hk5;clear hk5 b0 bf x0 x1 x2 x3 x4 x5 x6;obtain⟨x0,x1,x2,x3,x4,x5,x6⟩:=bP (aA xj.out xL.out);obtain⟨z0,z1,z2,z3,zf⟩:=gp (aA xj.out zk.out);first|rw [HZ.out]at z1|rw [HZ.out]at z2|rw [HZ.out]at z3);go_roundw
       case rel=>exact⟨j+1,by go_num,by omega,yF.out,((xO.out.trans xj.out (fun _ h=>h.elim)).setCell ⟨bm,2,none⟩ _ (.inl rfl)),by rw [CA.out];exact ed (aA xj.out zk.out) _⟩
       case measure=>simp [intOf];omega
      ·have HZ:=FH hz
       have HF:=FH (fT AG.out HL.out (j+1) (by rw [HX.out,du];unfold gd at hz;have:=of_decide_eq_true hz;simp at this ⊢;intros;simpa using this));clear hz;go_wp2_with (go_at_call 48;refine yx.out.mono ?_;rintro e4 w4 ⟨rfl,hk5⟩;have xj:=FH hk5;clear hk5 b0 bf x0 x1 x2 x3 x4 x5 x6;obtain⟨x0,x1,x2,x3,x4,x5,x6⟩:=bP (aA xj.out xL.out);obtain⟨z0,z1,z2,z3,zf⟩:=gp (aA xj.out zk.out);first|rw [HZ.out]at z1|rw [HZ.out]at z2|rw [HZ.out]at z3);go_ret;rw [HF.out];exact⟨rfl,AH.out.trans xj.out (fun _ h=>h.elim)⟩
     ·cases hz:gd (sets.take j) 3
      ·have HZ:=FH hz
       have yF:=FH (show eJ c (sets.take (j+1))=true by rw [HX.out,du,yw.out,HY.out];unfold gd at hz;simpa using hz);have CA:=FH (show hU (sets.take (j+1))=(hU (sets.take j)).setIfInBounds 3 (.bool true) by rw [HX.out,r8 rfl]);clear hz;go_wp2_with (go_at_call 48;refine yx.out.mono ?_;rintro e4 w4 ⟨rfl,hk5⟩;have xj:=FH hk5;clear hk5 b0 bf x0 x1 x2 x3 x4 x5 x6;obtain⟨x0,x1,x2,x3,x4,x5,x6⟩:=bP (aA xj.out xL.out);obtain⟨z0,z1,z2,z3,zf⟩:=gp (aA xj.out zk.out);first|rw [HZ.out]at z1|rw [HZ.out]at z2|rw [HZ.out]at z3);go_roundw
       case rel=>exact⟨j+1,by go_num,by omega,yF.out,((xO.out.trans xj.out (fun _ h=>h.elim)).setCell ⟨bm,3,none⟩ _ (.inl rfl)),by rw [CA.out];exact ed (aA xj.out zk.out) _⟩
       case measure=>simp [intOf];omega
      ·have HZ:=FH hz
       have HF:=FH (fT AG.out HL.out (j+1) (by rw [HX.out,du];unfold gd at hz;have:=of_decide_eq_true hz;simp at this ⊢;intros;simpa using this));clear hz;go_wp2_with (go_at_call 48;refine yx.out.mono ?_;rintro e4 w4 ⟨rfl,hk5⟩;have xj:=FH hk5;clear hk5 b0 bf x0 x1 x2 x3 x4 x5 x6;obtain⟨x0,x1,x2,x3,x4,x5,x6⟩:=bP (aA xj.out xL.out);obtain⟨z0,z1,z2,z3,zf⟩:=gp (aA xj.out zk.out);first|rw [HZ.out]at z1|rw [HZ.out]at z2|rw [HZ.out]at z3);go_ret;rw [HF.out];exact⟨rfl,AH.out.trans xj.out (fun _ h=>h.elim)⟩
   ·obtain rfl:j=N:=by omega
    have HF:=FH (qG AG.out HL.out (show eJ c sets=true by rw [←yw.out,FS (Nat.le_of_eq HN.out)]));have hlt2:¬(j:Int)<(j:Int):=by omega
    go_wp2_with fail;go_ret;rw [HF.out];exact⟨rfl,xV.out.trans zu.out (fun k h=>.inr (h▸zi.out))⟩
 ·have HL:=FH (show ¬sets.length≤3 by omega)
  have hl2:(N:Int) > 3:=by omega
  clear hm hN;go_wp2_with ((go_at_call 31;refine yM.out.mono ?_;rw [HM.out];rintro e1 w1 ⟨rfl,hk2⟩;have wV:=FH hk2;clear hk2 b0 bf));go_ret;rw [ud AG.out HL.out];exact⟨rfl,wN.out.trans wV.out (fun _ h=>h.elim)⟩
end Go.Proofs.YtdobimafhbfkhaaGreat
