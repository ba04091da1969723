/- A table's rows (Oracle.Rows); an oracle that is none. -/
import Derived.Test.YtdobimafhbfkhaaGreatOT45
set_option maxHeartbeats 64000000
namespace Go.Proofs.YtdobimafhbfkhaaGreat
open Go.ChangeShapes Go.WideShapes Go.ChangeAt Go.RowKit
set_option maxRecDepth 100000
set_option linter.unusedSimpArgs false
def ic (O:OrM)(t:Int):ay:=if 0≤t∧t<(O.tabs.length:Int)then O.tabs.getD t.toNat []else []
def RowsAns (B:World)(D:PH)(l:List HP)(o:Nat)(O:OrM)(rs:ay)(e:Ending)(w':World):Prop:=∃(a:Option Addr) (cc:Nat) (D':PH),e = .returned (.slice a rs.length cc)∧PH.le D D'∧RowsF D' (.slice a rs.length cc) rs∧Sat B D' w' (orP D' o O::l)
abbrev peT : PredE:=⟨1,0,⟨false,0,⟨#[]⟩⟩,⟨false,0,⟨#[]⟩⟩,none,0,0,[]⟩
theorem sF (m:ay):cS m peT.p cq=m:=by
 unfold cS
 refine List.filter_eq_self.2 fun r _=>?_
 have h1:bL cq (aJ r)=true:=by rfl
 have h2:peT.p.holds r=true:=by unfold PredE.p PredT.holds;rfl
 rw [h1,h2];rfl
theorem or_len {B w:World}{D:PH}{o:Nat}{O:OrM}{l:List HP}(h:Sat B D w (orP D o O::l)):∃pa pc,w.cell? ⟨o,1,none⟩=some (.slice pa O.tabs.length pc):=by
 obtain⟨y,hy,hs⟩:=fS h
 obtain⟨_,d1⟩:=dy hs
 obtain⟨pa,pc,hv⟩:=hy.2.1.shape
 rw [hv,hy.2.2.1]at d1
 exact⟨pa,pc,d1⟩
theorem mF {B w:World}{D:PH}{o n:Nat}{O:OrM}{l:List HP}(t:Int)(hI:OrI n O)(h:Sat B D w (orP D o O::l)) :
  Calls Tryz.prog 21 #[.pointer (some ⟨o,0,none⟩),.int .i64 t] w (RowsAns B D l o O (ic O t)):=by
 obtain⟨pa,pc,d1⟩:=or_len h
 by_cases h0:0≤t
 ·by_cases h1:t<(O.tabs.length:Int)
  ·obtain⟨i,rfl⟩:∃i:Nat,t=(i:Int):=⟨t.toNat,by omega⟩
   have hil:i<O.tabs.length:=by omega
   have hm:=List.getElem?_eq_getElem hil
   have hic:i<O.cols.length:=by rw [←hI.well.1];exact hil
   have hT:=(hI.well.2 i _ _ (List.getElem?_eq_getElem hic) hm).1
   have HR:=CM (show ic O (i:Int)=O.tabs[i] by unfold ic;rw [if_pos ⟨by omega,h1⟩,Int.toNat_natCast,List.getD_eq_getElem?_getD,hm];rfl)
   have vL:=CM (m9 (pe:=peT) cq hm (fun r hr=>(hT.short r hr).2) (.mk _ [] (RdP.nil _ _) (by intro e he;cases he)) h)
   rw [sF]at vL
   have hge:¬((O.tabs.length:Int)≤(i:Int)):=by omega
   have hneg:¬((i:Int)<0):=by omega
   generalize O.tabs[i]=m at *
   generalize O.tabs.length=TN at *
   clear hm hic hT h hI hil
   go_enter Tryz.func21,Tryz.ntmps21
   go_wp2_with (go_at_call 43;refine vL.out.mono ?_;rintro e2 w2 ⟨a,n2,cc,D',rfl,hle,hr,hs⟩;have HF:=CM (And.intro hle (And.intro hr hs));clear hle hr hs vL d1)
   refine bodyPost_ret (results_tmp rfl _ _ _) rfl ?_
   have hn:=i4 HF.out.2.1
   subst hn
   rw [HR.out]
   exact⟨a,cc,D',rfl,HF.out.1,HF.out.2.1,HF.out.2.2⟩
  ·have HR:=CM (show ic O t = [] by unfold ic;rw [if_neg (by omega)])
   have HS:=CM h
   have hneg:¬(t<0):=by omega
   have hge:(O.tabs.length:Int)≤t:=by omega
   generalize O.tabs.length=TN at *
   clear h hI
   go_enter Tryz.func21,Tryz.ntmps21
   go_wp2_with fail
   refine bodyPost_ret (results_tmp rfl _ _ _) rfl ?_
   rw [HR.out]
   exact⟨none,0,D,rfl,PH.le.refl _,RowsF.nil _,HS.out⟩
 ·have HR:=CM (show ic O t = [] by unfold ic;rw [if_neg (by omega)])
  have HS:=CM h
  have hneg:t<0:=by omega
  clear h hI h0
  go_enter Tryz.func21,Tryz.ntmps21
  go_wp2_with fail
  refine bodyPost_ret (results_tmp rfl _ _ _) rfl ?_
  rw [HR.out]
  exact⟨none,0,D,rfl,PH.le.refl _,RowsF.nil _,HS.out⟩
end Go.Proofs.YtdobimafhbfkhaaGreat
