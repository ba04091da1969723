/- The document's Right, May of a table, Fits (ratlineref01, ratlineref02). (printed by genlk.py) -/
import Derived.Test.YtdobimafhbfkhaaGreatOT25
import Derived.Test.YtdobimafhbfkhaaGreatOT9
set_option maxHeartbeats 64000000
namespace Go.Proofs.YtdobimafhbfkhaaGreat
open Go.ChangeShapes Go.WideShapes Go.ChangeAt Go.RowKit
set_option maxRecDepth 100000
set_option linter.unusedSimpArgs false
def lD (c:List Bool):Bool:=cu c
theorem mT {w:World}{cv:Value}{c:List Bool}(h:bu w cv c):Calls Tryz.prog 38 #[.agg #[cv]] w fun e w'=>e = .returned (.bool (lD c))∧Kept (fun _=>False) w w':=by
 obtain⟨-,m1,ao,cap,rfl,-⟩:=h
 have HK:=CM (show Kept (fun _=>False) w (w.alloc (.cells #[.slice ao c.length cap] aX))from(Kept.refl _ _).alloc _)
 by_cases h1:1≤c.length
 ·by_cases h2:c.length≤4
  ·have HM:=CM (show lD c=true by simp [lD,cu,h1,h2])
   have e1:((c.length:Int) ≥ 1):=by omega
   have e2:((c.length:Int)≤4):=by omega
   go_enter Tryz.func38,Tryz.ntmps38
   go_wp2_with fail
   go_ret
   rw [HM.out]
   exact⟨rfl,HK.out⟩
  ·have HM:=CM (show lD c=false by simp [lD,cu,h2])
   have e1:((c.length:Int) ≥ 1):=by omega
   have e2:¬((c.length:Int)≤4):=by omega
   go_enter Tryz.func38,Tryz.ntmps38
   go_wp2_with fail
   go_ret
   rw [HM.out]
   exact⟨rfl,HK.out⟩
 ·have HM:=CM (show lD c=false by simp [lD,cu,h1])
  have e1:¬((c.length:Int) ≥ 1):=by omega
  go_enter Tryz.func38,Tryz.ntmps38
  go_wp2_with fail
  go_ret
  rw [HM.out]
  exact⟨rfl,HK.out⟩
theorem tn {w:World}{cv rv:Value}{c:List Bool}{r:List Val}(hc:bu w cv c)(hr:eh w rv r):Calls Tryz.prog 27 #[.agg #[cv],rv] w fun e w'=>e = .returned (.bool (bw c r))∧Kept (fun _=>False) w w':=by
 have hk1:Kept (fun _=>False) w (w.alloc (.cells #[cv] aX)):=(Kept.refl _ _).alloc _
 have hb1:(w.alloc (.cells #[cv] aX)).heap[w.heap.size]?=some (.cells #[cv] aX (0,0)):=aw w _
 have HC:=CM (Rd.kept hc hk1 (fun _ _ h=>h))
 have HR:=CM (Rd.kept hr hk1 (fun _ _ h=>h))
 have uq:=CM hk1
 have um:=CM hb1
 obtain⟨-,m1,co,ccap,rfl,-⟩:=hc
 obtain⟨-,m2,ro,rcap,rfl,-⟩:=hr
 clear hk1 hb1
 go_enter Tryz.func27,Tryz.ntmps27
 go_upto_region 1 with (fail)
 obtain⟨W,hW⟩:∃W,W=w.alloc (.cells #[.slice co c.length ccap] aX):=⟨_,rfl⟩
 rw [←hW]at HC HR uq um ⊢
 generalize w.heap.size=bt at um ⊢
 clear hW
 obtain⟨b0,bf⟩:=aq um.out
 have wQ:=CM (mT HC.out)
 cases hm:cu c
 ·have HM:=CM (show lD c=false from hm)
  have HF:=CM (show bw c r=false by simp [bw,hm])
  clear hm
  go_wp2_with (go_at_call 38;refine wQ.out.mono ?_;rw [HM.out];rintro e1 w1 ⟨rfl,hk2⟩;have ux:=CM hk2;clear hk2 b0 bf)
  go_ret
  rw [HF.out]
  exact⟨rfl,uq.out.trans ux.out (fun _ h=>h.elim)⟩
 have HM:=CM (show lD c=true from hm)
 by_cases hl:r.length=c.length
 ·obtain⟨N,hN⟩:∃N,r.length=N:=⟨_,rfl⟩
  have HF:=CM (show bw c r=dH c r N by unfold bw;rw [hm,decide_eq_true hl,hN];rfl)
  have HN:=CM hN
  have hcn:c.length=N:=by omega
  have xD:=CM hcn
  rw [hcn]at HC wQ um b0 m1 ⊢
  rw [hN]at HR m2 ⊢
  unfold maxLen at m1 m2
  clear hm hl hN hcn
  go_upto_region 4 with (go_at_call 38;refine wQ.out.mono ?_;rw [HM.out];rintro e1 w1 ⟨rfl,hk2⟩;have ux:=CM hk2;clear hk2 b0 bf;have hb1:=(ux.out.block _ (ax um.out) (fun h=>h)).trans um.out;obtain⟨b0,bf⟩:=aq hb1;have un:=CM hb1;clear hb1)
  have wD:=CM (Rd.kept HC.out ux.out (fun _ _ h=>h))
  have yh:=CM (Rd.kept HR.out ux.out (fun _ _ h=>h))
  have vI:=CM (uq.out.trans ux.out (fun _ h=>h.elim))
  clear HC HR um wQ HM uq ux
  go_wp2_with fail
  clear b0 bf
  go_loopw [6] (fun idx wr=>∃j:Nat,idx = .int .i64 j∧j≤N∧dH c r j=true∧Kept (fun _=>False) w1 wr) (fun idx _=>N-(intOf idx).toNat)
  case atStart=>exact⟨0,rfl,Nat.zero_le _,by simp [dH],Kept.refl _ _⟩
  case round =>
   obtain⟨j,rfl,hj,hno,hkr⟩:=hrel
   by_cases hlt:j<N
   ·obtain⟨x,hx⟩:∃x,r[j]?=some x:=⟨r[j]'(by rw [HN.out];exact hlt),List.getElem?_eq_getElem _⟩
    obtain⟨b,hb⟩:∃b,c[j]?=some b:=⟨c[j]'(by rw [xD.out];exact hlt),List.getElem?_eq_getElem _⟩
    have hrr:=Rd.kept yh.out hkr (fun _ _ h=>h)
    obtain⟨rg,rog,rfl⟩:=ef hrr hx HN.out
    obtain⟨cg,cog,rfl⟩:=ez wD.out hb xD.out
    obtain⟨y0,y1,y2⟩:=aM hrr hx
    have xE:=CM hkr
    have vG:=CM (lq hx hb)
    have wb:=CM hno
    have AZ:=CM hb
    have HX:=CM hx
    have hib:(j:Int)<(N:Int):=by omega
    have uY:=CM (gW x wr)
    clear hx hb hrr hno hkr
    cases hv:am x
    ·have vO:=CM (show dH c r N=false from fF (show j+1≤N by omega) (by rw [vG.out,hv];simp))
     have HV:=CM hv
     clear hv
     go_upto_region 8 with (go_at_call 26;refine uY.out.mono ?_;rw [HV.out];rintro e4 w4 ⟨rfl,hk5⟩;have uG:=CM ((vI.out.trans xE.out (fun _ h=>h.elim)).trans hk5 (fun _ h=>h.elim));clear hk5 y0 y1 y2)
     go_quiet (fail)
     go_wp2_with fail
     go_ret
     rw [HF.out,vO.out]
     exact⟨rfl,uG.out.trans ((Kept.refl (fun _=>False) w4).drewN _) (fun _ h=>h.elim)⟩
    ·have HV:=CM hv
     go_upto_region 8 with (go_at_call 26;refine uY.out.mono ?_;rw [HV.out];rintro e4 w4 ⟨rfl,hk5⟩;have uG:=CM (xE.out.trans hk5 (fun _ h=>h.elim));clear hk5 y0 y1 y2)
     obtain⟨b0,bf⟩:=aq ((uG.out.block _ (ax un.out) (fun h=>h)).trans un.out)
     have hcc:=dG (Rd.kept wD.out uG.out (fun _ _ h=>h)) AZ.out
     obtain⟨y0,y1,y2⟩:=aM (Rd.kept yh.out uG.out (fun _ _ h=>h)) HX.out
     by_cases hxt:x.t=b
     ·subst hxt
      have vO:=CM (show dH c r (j+1)=true by rw [vG.out,hv,wb.out];simp)
      clear hv
      go_quiet (fail)
      go_wp2_with fail
      go_roundw
      case rel=>exact⟨j+1,by go_num,by omega,vO.out,uG.out.trans ((Kept.refl (fun _=>False) w4).drewN _) (fun _ h=>h.elim)⟩
      case measure=>simp [intOf];omega
     ·obtain rfl:b = !x.t:=by cases b<;>cases h:x.t<;>simp_all
      have vO:=CM (show dH c r N=false from fF (show j+1≤N by omega) (by rw [vG.out];simp))
      clear hxt hv
      go_quiet (fail)
      go_wp2_with fail
      go_ret
      rw [HF.out,vO.out]
      exact⟨rfl,(vI.out.trans uG.out (fun _ h=>h.elim)).trans ((Kept.refl (fun _=>False) w4).drewN _) (fun _ h=>h.elim)⟩
   ·obtain rfl:j=N:=by omega
    have vO:=CM hno
    have A0:=CM (vI.out.trans hkr (fun _ h=>h.elim))
    clear hno hkr
    go_wp2_with fail
    go_ret
    rw [HF.out,vO.out]
    exact⟨rfl,A0.out⟩
 ·have HF:=CM (show bw c r=false by unfold bw;rw [hm,decide_eq_false hl];rfl)
  have hl':¬((r.length:Int)=(c.length:Int)):=by omega
  clear hm hl
  go_wp2_with (go_at_call 38;refine wQ.out.mono ?_;rw [HM.out];rintro e1 w1 ⟨rfl,hk2⟩;have ux:=CM hk2;clear hk2 b0 bf;obtain⟨b0,bf⟩:=aq ((ux.out.block _ (ax um.out) (fun h=>h)).trans um.out))
  go_ret
  rw [HF.out]
  exact⟨rfl,uq.out.trans ux.out (fun _ h=>h.elim)⟩
end Go.Proofs.YtdobimafhbfkhaaGreat
