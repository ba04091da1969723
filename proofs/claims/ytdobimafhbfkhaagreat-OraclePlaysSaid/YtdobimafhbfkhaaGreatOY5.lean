/- The library's Clone, Insert, Delete of slices as the tree calls them. -/
import Derived.Test.YtdobimafhbfkhaaGreatOY3
import Derived.Deep.Cut
set_option maxHeartbeats 64000000
namespace Go.Proofs.YtdobimafhbfkhaaGreat
open Go.ChangeShapes Go.WideShapes Go.ChangeAt Go.RowKit
set_option maxRecDepth 100000
set_option linter.unusedSimpArgs false
theorem iN : (Tryz.prog.info? 24).map (fun i=>(i.zero,i.size,i.bytes))=some (some (.agg #[.bool false,.int .i64 0,.string ⟨#[]⟩]),3,32):=by kernel_rfl
theorem lB : (Tryz.prog.info? 3).map (fun i=>(i.zero,i.size,i.bytes))=some (some (.int .i64 0),1,8):=by kernel_rfl
theorem qw : ∀u∈(Value.agg #[.bool false,.int .i64 0,.string ⟨#[]⟩]).cells.toList,u.oneCell'=true:=by intro u hu;simp [Value.cells]at hu;rcases hu with rfl|rfl|rfl<;>rfl
theorem pM : ∀u∈(Value.int .i64 0).cells.toList,u.oneCell'=true:=by intro u hu;simp [Value.cells]at hu;subst hu;rfl
theorem nN {B w:World}{D:PH}{l:List HP}{v:Value}{n:Nat}{xs:List Value}(hrd:Rd w 3 v n xs)(hone:∀u∈xs,u.oneCell'=true)(hb:n*32≤140737488355328)(hs:Sat B D w l) :
  Calls Tryz.prog 124 #[v] w fun e w'=>∃v',e = .returned v'∧Sat B D w' (aD 24 3 v' n xs::l):=by
 obtain⟨i0,hi,hz0,hz1,hz2⟩:=info_parts iN;have hm:=hrd.2.1;obtain⟨ao,cap,rfl,_,_,hnone,hcase⟩:=hrd.2.2;cases ao with
 | none =>
  have h0:n=0:=by rcases hcase with h|⟨g,o,h,_⟩;exact h;cases h
  subst h0;have hx:xs = []:=List.eq_nil_of_length_eq_zero (by simpa using hrd.1);subst hx;have HS:=FH (hs.own_nil 24 3);clear hcase hnone hrd hz0 hz1 hz2 hi hb hs;go_enter Tryz.func124,Tryz.ntmps124;go_wp2_with fail;go_ret;exact⟨_,rfl,HS.out⟩
 | some a =>
  have hown:=Sat.own_fresh (e:=24) (size:=3) (n:=0) (cap:=0) (cs:=#[]) (xs:=[]) hs (by omega) (by omega) (by simp) (by simp) (by simp);have hrd2:Rd (w.alloc (.cells #[] 24)) 3 (.slice (some a) n cap) n xs:=hrd.kept ((Kept.refl (fun _=>False) _).alloc _) (fun _ _ h=>h);have HO:=FH hown;have HR:=FH hrd2;have HI:=FH (And.intro hi (And.intro hz0 (And.intro hz1 hz2)));clear hcase hnone hrd hz0 hz1 hz2 hi hs hown hrd2;go_enter Tryz.func124,Tryz.ntmps124;go_wp2_with (at_builtin;refine az _ rfl _ _ 25 rfl 24 i0 _ 3 32 Tryz.underlying25 HI.out.1 HI.out.2.1 HI.out.2.2.1 HI.out.2.2.2 rfl _ 0 [] rfl HO.out _ n xs rfl HR.out hone (by omega) (by omega) ?_;intro v' w' h1 h2;simp only [Nat.zero_add,List.nil_append]at h1;have H1:=FH h1;clear h1 h2);go_ret;exact⟨_,rfl,H1.out⟩
theorem mS {B w:World}{D:PH}{l:List HP}{v:Value}{n:Nat}{xs xc:List Value}(hxc:xc.length=3)(hx1:∀u∈xc,u.oneCell'=true)(bx:Nat)(hb:(n+1)*32≤140737488355328)(hs:Sat B D w (aD 24 3 v n xs::blk bx xc.toArray 24::l)) :
  Calls Tryz.prog 122 #[v,.int .i64 n,.slice (some ⟨bx,0,none⟩) 1 1] w fun e w'=>∃v',e = .returned v'∧Sat B D w' (aD 24 3 v' (n+1) (xs++xc)::blk bx xc.toArray 24::l):=by
 obtain⟨i0,hi,hz0,hz1,hz2⟩:=info_parts iN;have hle:=(hs.own 0 rfl).le;obtain⟨ao,cap,hv,hnc,hcm,_⟩:=(hs.own 0 rfl).rd.2.2;subst hv;have hrd:=bC (size:=3) (n:=1) (hs.blk 1 rfl) (by simpa using hxc) (by unfold maxLen;omega);unfold maxLen at hle hcm;have HS:=FH hs;have HR:=FH hrd;have HI:=FH (And.intro hi (And.intro hz0 (And.intro hz1 hz2)));clear hi hz0 hz1 hz2 hs hrd;have hm1:¬((1:Int)=0):=by omega
 go_enter Tryz.func122,Tryz.ntmps122;go_wp2_with (at_builtin;refine az _ rfl _ _ 25 rfl 24 i0 _ 3 32 Tryz.underlying25 HI.out.1 HI.out.2.1 HI.out.2.2.1 HI.out.2.2.2 rfl _ n xs rfl HS.out _ 1 _ rfl HR.out (by simpa using hx1) (by unfold maxLen;omega) (by omega) ?_;intro v' w' h1 h2;have H1:=FH h1;clear h1 h2)
 all_goals
  go_ret;exact⟨_,rfl,by simpa using H1.out⟩
theorem oC {w:World}{bx g:Nat}{xc cur:Array Value}(h1:w.heap[bx]?=some (.cells xc 24 (0,0)))(h2:w.heap[g]?=some (.cells cur 24 (0,0)))(hne:bx≠g)(hc:cur.size≠0)(la ca lb cb off:Nat) :
  (callFunc 135 #[.slice (some ⟨bx,0,none⟩) la ca,.slice (some ⟨g,off,none⟩) lb cb]).run Tryz.prog w = .ok (.value (.bool false)) w:=by
 rw [run_callFunc_extern Tryz.func135 (by kernel_rfl) (by kernel_rfl) (by kernel_rfl) (e:=Extern.SlicesOverlaps.overlaps #[25,25] #[4]) (by kernel_rfl),
  Lib.run_overlaps_apart w 25 4 24 Tryz.underlying25 3 (fun w=>Tryz.sizeOf24 w) ⟨bx,0,none⟩ ⟨g,off,none⟩ la ca lb cb hne 24 24 xc.size cur.size (by simp [World.shape?,h1]) (by simp [World.shape?,h2]) hc (by simp [World.frozen?,h1]) (by simp [World.frozen?,h1])]
 rfl
theorem li {B w:World}{D:PH}{l:List HP}{g n cap i:Nat}{xs xc ys:List Value}(hys:ys=xs.take (i*3)++xc++xs.drop (i*3))(hin:i<n)(hroom:n+1≤cap)(hxc:xc.length=3)(hx1:∀u∈xc,u.oneCell'=true)(bx:Nat)(hs:Sat B D w (aD 24 3 (.slice (some ⟨g,0,none⟩) n cap) n xs::blk bx xc.toArray 24::l)) :
  Calls Tryz.prog 122 #[.slice (some ⟨g,0,none⟩) n cap,.int .i64 i,.slice (some ⟨bx,0,none⟩) 1 1] w fun e w'=>∃v',e = .returned v'∧Sat B D w' (aD 24 3 v' (n+1) ys::blk bx xc.toArray 24::l):=by
 obtain⟨cur,h1,hnc,hcm,hcz,hct,hc1,hxl⟩:=hs.own_row;have hne:=h1.ne 1 0 (by omega) rfl rfl;have hsz0:cur.toArray.size=cur.length:=by simp
 have hov:=oC (h1.blk 1 rfl) (h1.blk 0 rfl) hne (by omega);have HS:=FH h1.drew;have yO:=FH hct;have xG:=FH hc1;have xU:=FH hxl;have yr:=FH hxc;have yp:=FH hys;have hcm':=hcm;unfold maxLen at hcm';have hrd1:Rd w.drew 3 (.slice (some ⟨g,(i*3),none⟩) (n+1-i) (cap-i)) (n+1-i) ((cur.drop (i*3)).take ((n+1-i)*3)):=by
  refine⟨by rw [F0,Ga];omega,by omega,_,_,rfl,by omega,by omega,(fun h=>by cases h),.inr ⟨g,_,rfl,fun j u hu=>?_⟩⟩;rw [cell_of_row _ g _ _ _ _ h1.drew.heap_blk];rw [List.getElem?_take]at hu;split at hu
  ·rw [List.getElem?_drop]at hu;simpa using hu
  ·cases hu
 have wQ:=FH hrd1;have xF:=FH (show(((cur.drop (i*3)).take ((n+1-i)*3)).take ((n-i)*3))=xs.drop (i*3) by
  rw [List.take_take,Nat.min_eq_left (by omega),←hct,List.drop_take]
  congr 1
  omega)
 have hfree:∀u∈xs.drop (i*3),u.oneCell'=true:=fun u hu=>hc1 u (Gd hu);have yP:=FH hfree;clear hs h1 hct hc1 hxl hxc hys hrd1 hsz0 hfree;have hm1:¬((1:Int)=0):=by omega
 have hin':¬((i:Int)=(n:Int)):=by omega
 have hw1:IntKind.i64.wrap ((i:Int)+1)=(i:Int)+1:=Gr _ (by omega);have hw2:IntKind.i64.wrap ((n:Int)+1)=(n:Int)+1:=Gr _ (by omega);have htn:((i:Int)+1).toNat=i+1:=by omega
 have hb1:(0:Int)≤(i:Int)+1:=by omega
 have hb2:¬(cap=i+1):=by omega
 have hin2:i≤n:=by omega
 have hb3:(i:Int)≤(n:Int)+1:=by omega
 have hb5:i≤n+1:=by omega
 have hb4:¬(cap=i):=by omega
 go_enter Tryz.func122,Tryz.ntmps122;go_wp2_with (simp only [hov]);refine aH [rq 0 8,rq 1 8,rq 2 8,rq 3 8,rq 4 8,rq 5 8,rq 6 8,rq 7 8,(8,true,0)] ?_;iterate 8 (refine ae rfl rfl fun K hK=>?_;go_simp;apply hK;clear hK K)
 refine af rfl ?_;refine bE _ rfl _ _ 25 25 rfl 24 3 Tryz.underlying25 (fun w=>Tryz.sizeOf24 w) g _ _ _ rfl cur HS.out _ _ (n-i) _ (xs.drop (i*3)) rfl wQ.out (by omega) xF.out (by omega) yP.out ?_;intro w2 h2;have wJ:=FH h2;clear h2 HS wQ yP hov;refine wpList_nil ?_;apply And.intro
 ·go_simp
 refine ag ?_;have hrd:=bC (size:=3) (n:=1) (wJ.out.blk 1 rfl) (by simpa using yr.out) (by unfold maxLen;omega);have hlen2:=cQ cur ((i+1)*3) (xs.drop (i*3)) (by rw [Ga,xU.out];omega);have zF:=FH hrd;have yl:=FH hlen2;clear hrd hlen2;go_wp2_with (show wpList _ _ _ (⟨some 82,_,_,_,_,_⟩::_) _ _;refine bE _ rfl _ _ 25 25 rfl 24 3 Tryz.underlying25 (fun w=>Tryz.sizeOf24 w) g _ _ _ rfl _ wJ.out _ _ 1 _ xc rfl zF.out (by omega) (by rw [FS (by simp [yr.out])]) (by rw [yl.out];omega) (by simpa using hx1) ?_;intro w3 h3;have wI:=FH h3;clear h3);go_ret;refine⟨_,rfl,wI.out.row_own (by omega) hcm (by rw [cQ _ _ _ (by rw [yl.out,yr.out];omega),yl.out];exact hcz) ?_ ?_⟩
 ·have e:=jt cur xs xc (i*3) 3 (n*3) yO.out (by omega) yr.out (by omega)
  have o1:((i+1)*3)=i*3+3:=by omega
  have o2:(i*3)=i*3:=by omega
  have o3:(n+1)*3=n*3+3:=by omega
  rw [yp.out,o3,o1]
  first|exact e|(simp only [Nat.mul_one]at e ⊢;exact e)
 ·intro u hu
  rw [yp.out]at hu;rcases F2.1 hu with hu|hu
  ·rcases F2.1 hu with hu|hu
   ·exact xG.out u (Gf hu)
   ·exact hx1 u hu
  ·exact xG.out u (Gd hu)
theorem kS {B w:World}{D:PH}{l:List HP}{g n cap i:Nat}{xs xc ys:List Value}(hys:ys=xs.take (i*3)++xc++xs.drop (i*3))(hin:i<n)(hroom:cap<n+1)(hxc:xc.length=3)(hx1:∀u∈xc,u.oneCell'=true)(bx:Nat)(hb:(n+1)*32≤140737488355328)
  (hs:Sat B D w (aD 24 3 (.slice (some ⟨g,0,none⟩) n cap) n xs::blk bx xc.toArray 24::l)) :
  Calls Tryz.prog 122 #[.slice (some ⟨g,0,none⟩) n cap,.int .i64 i,.slice (some ⟨bx,0,none⟩) 1 1] w fun e w'=>∃v',e = .returned v'∧Sat B D w' (aD 24 3 v' (n+1) ys::blk bx xc.toArray 24::l):=by
 obtain⟨i0,hi,hz0,hz1,hz2⟩:=info_parts iN;have ho:=hs.own 0 rfl;have hle:=ho.le;obtain⟨_,_,hv,hnc,hcm,_⟩:=ho.rd.2.2;cases hv;have hxl:=ho.1;have hc1:=ho.2.1;unfold maxLen at hle hcm;have holds:∀j v,(xs.take (i*3))[j]?=some v→w.cell? ((⟨g,0,none⟩:Addr).add j)=some v:=fun j v hj=>by
  rw [ew,Nat.zero_add];rw [List.getElem?_take]at hj;split at hj
  ·exact ho.cells j v hj
  ·cases hj
 have HS:=FH hs;have HI:=FH (And.intro hi (And.intro hz0 (And.intro hz1 hz2)));have yE:=FH holds;have xU:=FH hxl;have xG:=FH hc1;have yr:=FH hxc;have yp:=FH hys;clear hs hi hz0 hz1 hz2 holds hxl hc1 hxc hys ho;have hm1:¬((1:Int)=0):=by omega
 have hin':¬((i:Int)=(n:Int)):=by omega
 have hcc:(cap:Int)<(n:Int)+1:=by omega
 have hw1:IntKind.i64.wrap ((i:Int)+1)=(i:Int)+1:=Gr _ (by omega);have hw2:IntKind.i64.wrap ((n:Int)+1)=(n:Int)+1:=Gr _ (by omega);have hw3:IntKind.i64.wrap ((n:Int)+1-(i:Int))=(n:Int)+1-(i:Int):=Gr _ (by omega);have htn:((i:Int)+1).toNat=i+1:=by omega
 have hb1:(0:Int)≤(i:Int)+1:=by omega
 have hb4:¬(cap=i):=by omega
 have hin2:i≤n:=by omega
 have hb3:(i:Int)≤(n:Int)+1:=by omega
 have hb5:i≤n+1:=by omega
 go_enter Tryz.func122,Tryz.ntmps122;go_upto_region 10 with (show wpList _ _ _ (⟨some 40,_,_,_,_,_⟩::_) _ _;refine di _ rfl _ _ 25 3 rfl 24 i0 _ 3 32 Tryz.underlying25 Tryz.underlying3 HI.out.1 HI.out.2.1 HI.out.2.2.1 HI.out.2.2.2 rfl qw ⟨g,0,none⟩ i cap rfl _ (by rw [F0,xU.out];omega) yE.out (fun u hu=>xG.out u (Gf hu)) (n+1-i) (by simp [Act.eval];omega) (by omega) (by omega) (by unfold maxLen;omega) (by omega) HS.out ?_;intro w2 g2 cap2 zs hzs hcap2 h2;rw [show i+(n+1-i)=n+1 by omega]at h2 hcap2;have H2:=FH h2;have Eu:=FH hzs;clear h2 hzs)
 obtain⟨cur,h1,_,hcm2,hcz,hct,hc2,hcl⟩:=H2.out.own_row;have hrx:=bC (size:=3) (n:=1) (h1.blk 2 rfl) (by simpa using yr.out) (by unfold maxLen;omega);have hg1:¬(cap2=i):=by omega
 have hg2:¬(cap2=i+1):=by omega
 have H1:=FH h1;have zF:=FH hrx;have yO:=FH hct;have yA:=FH hcm2;clear h1 hrx hct hc2 hcl H2 yE HI HS;unfold maxLen at hcm2;go_upto_region 11 with (show wpList _ _ _ (⟨some 45,_,_,_,_,_⟩::_) _ _;refine bE _ rfl _ _ 25 25 rfl 24 3 Tryz.underlying25 (fun w=>Tryz.sizeOf24 w) g2 _ _ _ rfl _ H1.out _ _ 1 _ xc rfl zF.out (by omega) (by rw [FS (by simp [yr.out])]) (by omega) (by simpa using hx1) ?_;intro w3 h3;have wI:=FH h3;clear h3)
 have hlen2:=cQ cur (i*3) xc (by rw [yr.out];omega);have hrd1:Rd w3.drew 3 (.slice (some ⟨g,(i*3),none⟩) (n-i) (cap-i)) (n-i) (xs.drop (i*3)):=by
  refine⟨by rw [Ga,xU.out];omega,by unfold maxLen;omega,_,_,rfl,by omega,by unfold maxLen;omega,(fun h=>by cases h),.inr ⟨g,_,rfl,fun j u hu=>?_⟩⟩;rw [List.getElem?_drop]at hu;have:=(wI.out.own 1 rfl).cells _ u hu
  simpa using this
 have wO:=FH wI.out.drew;have wQ:=FH hrd1;have yl:=FH hlen2;have xF:=FH (show(xs.drop (i*3)).take ((n-i)*3)=xs.drop (i*3) by rw [FS (by rw [Ga,xU.out];omega)]);have xz:=FH (show ∀u∈xs.drop (i*3),u.oneCell'=true from fun u hu=>xG.out u (Gd hu));clear hrd1 hlen2 H1 zF wI;refine aH [rq 0 8,rq 1 8,rq 2 8,rq 3 8,rq 4 8,rq 5 8,rq 6 8,rq 7 8,(8,true,0)] ?_;iterate 8 (refine ae rfl rfl fun K hK=>?_;go_simp;apply hK;clear hK K)
 refine af rfl ?_;refine bE _ rfl _ _ 25 25 rfl 24 3 Tryz.underlying25 (fun w=>Tryz.sizeOf24 w) g2 _ _ _ rfl _ wO.out _ _ (n-i) _ (xs.drop (i*3)) rfl wQ.out (by omega) xF.out (by rw [yl.out];omega) xz.out ?_;intro w5 h5;have wT:=FH (h5.swap.drop);have H5:=FH h5;clear h5 wO wQ xz wT;refine wpList_nil ?_;apply And.intro
 ·go_simp
 refine ag ?_;go_wp2_with fail;go_ret;have hrow:=H5.out.row_own (n:=n+1) (cap:=cap2) (size:=3) (xs:=ys) (by omega) yA.out (by rw [cQ _ _ _ (by rw [yl.out,Ga,xU.out];omega),yl.out];exact hcz) ?_ ?_
 ·exact⟨_,rfl,hrow.swap.drop⟩
 ·have o1:((i+1)*3)=i*3+3:=by omega
  have o3:(n+1)*3=n*3+3:=by omega
  have hct':=yO.out;rw [o3]at hct';have e:=im cur xs xc zs (i*3) 3 (n*3) hct' xU.out (by omega) yr.out;rw [yp.out,o3,o1]
  first|exact e|(simp only [Nat.mul_one]at e ⊢;exact e)
 ·intro u hu
  rw [yp.out]at hu;rcases F2.1 hu with hu|hu
  ·rcases F2.1 hu with hu|hu
   ·exact xG.out u (Gf hu)
   ·exact hx1 u hu
  ·exact xG.out u (Gd hu)
theorem ic {B w:World}{D:PH}{l:List HP}{v:Value}{n i:Nat}{xs xc:List Value}(hin:i≤n)(hxc:xc.length=3)(hx1:∀u∈xc,u.oneCell'=true)(bx:Nat)(hb:(n+1)*32≤140737488355328)
  (hs:Sat B D w (aD 24 3 v n xs::blk bx xc.toArray 24::l)) :
  Calls Tryz.prog 122 #[v,.int .i64 i,.slice (some ⟨bx,0,none⟩) 1 1] w fun e w'=>∃v',e = .returned v'∧Sat B D w' (aD 24 3 v' (n+1) (xs.take (i*3)++xc++xs.drop (i*3))::blk bx xc.toArray 24::l):=by
 have hxl:=(hs.own 0 rfl).1;by_cases h:i=n
 ·subst h
  have:=mS hxc hx1 bx hb hs;rw [FS (by omega),Gk (by omega),List.append_nil];exact this
 ·obtain⟨g,cap,rfl,hnc,hcm⟩:=(hs.own 0 rfl).form (by omega)
  by_cases hroom:n+1≤cap
  ·exact li rfl (by omega) hroom hxc hx1 bx hs
  ·exact kS rfl (by omega) (by omega) hxc hx1 bx hb hs
theorem tu {B w:World}{D:PH}{l:List HP}{v:Value}{n:Nat}{xs:List Value}(hrd:Rd w 1 v n xs)(hone:∀u∈xs,u.oneCell'=true)(hb:n*8≤140737488355328)(hs:Sat B D w l) :
  Calls Tryz.prog 126 #[v] w fun e w'=>∃v',e = .returned v'∧Sat B D w' (aD 3 1 v' n xs::l):=by
 obtain⟨i0,hi,hz0,hz1,hz2⟩:=info_parts lB;have hm:=hrd.2.1;obtain⟨ao,cap,rfl,_,_,hnone,hcase⟩:=hrd.2.2;cases ao with
 | none =>
  have h0:n=0:=by rcases hcase with h|⟨g,o,h,_⟩;exact h;cases h
  subst h0;have hx:xs = []:=List.eq_nil_of_length_eq_zero (by simpa using hrd.1);subst hx;have HS:=FH (hs.own_nil 3 1);clear hcase hnone hrd hz0 hz1 hz2 hi hb hs;go_enter Tryz.func126,Tryz.ntmps126;go_wp2_with fail;go_ret;exact⟨_,rfl,HS.out⟩
 | some a =>
  have hown:=Sat.own_fresh (e:=3) (size:=1) (n:=0) (cap:=0) (cs:=#[]) (xs:=[]) hs (by omega) (by omega) (by simp) (by simp) (by simp);have hrd2:Rd (w.alloc (.cells #[] 3)) 1 (.slice (some a) n cap) n xs:=hrd.kept ((Kept.refl (fun _=>False) _).alloc _) (fun _ _ h=>h);have HO:=FH hown;have HR:=FH hrd2;have HI:=FH (And.intro hi (And.intro hz0 (And.intro hz1 hz2)));clear hcase hnone hrd hz0 hz1 hz2 hi hs hown hrd2;go_enter Tryz.func126,Tryz.ntmps126;go_wp2_with (at_builtin;refine az _ rfl _ _ 117 rfl 3 i0 _ 1 8 Tryz.underlying117 HI.out.1 HI.out.2.1 HI.out.2.2.1 HI.out.2.2.2 rfl _ 0 [] rfl HO.out _ n xs rfl HR.out hone (by omega) (by omega) ?_;intro v' w' h1 h2;simp only [Nat.zero_add,List.nil_append]at h1;have H1:=FH h1;clear h1 h2);go_ret;exact⟨_,rfl,H1.out⟩
theorem l7 {B w:World}{D:PH}{l:List HP}{v:Value}{n:Nat}{xs xc:List Value}(hxc:xc.length=1)(hx1:∀u∈xc,u.oneCell'=true)(bx:Nat)(hb:(n+1)*8≤140737488355328)(hs:Sat B D w (aD 3 1 v n xs::blk bx xc.toArray 3::l)) :
  Calls Tryz.prog 127 #[v,.int .i64 n,.slice (some ⟨bx,0,none⟩) 1 1] w fun e w'=>∃v',e = .returned v'∧Sat B D w' (aD 3 1 v' (n+1) (xs++xc)::blk bx xc.toArray 3::l):=by
 obtain⟨i0,hi,hz0,hz1,hz2⟩:=info_parts lB;have hle:=(hs.own 0 rfl).le;obtain⟨ao,cap,hv,hnc,hcm,_⟩:=(hs.own 0 rfl).rd.2.2;subst hv;have hrd:=bC (size:=1) (n:=1) (hs.blk 1 rfl) (by simpa using hxc) (by unfold maxLen;omega);unfold maxLen at hle hcm;have HS:=FH hs;have HR:=FH hrd;have HI:=FH (And.intro hi (And.intro hz0 (And.intro hz1 hz2)));clear hi hz0 hz1 hz2 hs hrd;have hm1:¬((1:Int)=0):=by omega
 go_enter Tryz.func127,Tryz.ntmps127;go_wp2_with (at_builtin;refine az _ rfl _ _ 117 rfl 3 i0 _ 1 8 Tryz.underlying117 HI.out.1 HI.out.2.1 HI.out.2.2.1 HI.out.2.2.2 rfl _ n xs rfl HS.out _ 1 _ rfl HR.out (by simpa using hx1) (by unfold maxLen;omega) (by omega) ?_;intro v' w' h1 h2;have H1:=FH h1;clear h1 h2)
 all_goals
  go_ret;exact⟨_,rfl,by simpa using H1.out⟩
theorem oZ {w:World}{bx g:Nat}{xc cur:Array Value}(h1:w.heap[bx]?=some (.cells xc 3 (0,0)))(h2:w.heap[g]?=some (.cells cur 3 (0,0)))(hne:bx≠g)(hc:cur.size≠0)(la ca lb cb off:Nat) :
  (callFunc 139 #[.slice (some ⟨bx,0,none⟩) la ca,.slice (some ⟨g,off,none⟩) lb cb]).run Tryz.prog w = .ok (.value (.bool false)) w:=by
 rw [run_callFunc_extern Tryz.func139 (by kernel_rfl) (by kernel_rfl) (by kernel_rfl) (e:=Extern.SlicesOverlaps.overlaps #[117,117] #[4]) (by kernel_rfl),
  Lib.run_overlaps_apart w 117 4 3 Tryz.underlying117 1 (fun w=>Tryz.sizeOf3 w) ⟨bx,0,none⟩ ⟨g,off,none⟩ la ca lb cb hne 3 3 xc.size cur.size (by simp [World.shape?,h1]) (by simp [World.shape?,h2]) hc (by simp [World.frozen?,h1]) (by simp [World.frozen?,h1])]
 rfl
theorem kX {B w:World}{D:PH}{l:List HP}{g n cap i:Nat}{xs xc ys:List Value}(hys:ys=xs.take (i*1)++xc++xs.drop (i*1))(hin:i<n)(hroom:n+1≤cap)(hxc:xc.length=1)(hx1:∀u∈xc,u.oneCell'=true)(bx:Nat)(hs:Sat B D w (aD 3 1 (.slice (some ⟨g,0,none⟩) n cap) n xs::blk bx xc.toArray 3::l)) :
  Calls Tryz.prog 127 #[.slice (some ⟨g,0,none⟩) n cap,.int .i64 i,.slice (some ⟨bx,0,none⟩) 1 1] w fun e w'=>∃v',e = .returned v'∧Sat B D w' (aD 3 1 v' (n+1) ys::blk bx xc.toArray 3::l):=by
 obtain⟨cur,h1,hnc,hcm,hcz,hct,hc1,hxl⟩:=hs.own_row;have hne:=h1.ne 1 0 (by omega) rfl rfl;have hsz0:cur.toArray.size=cur.length:=by simp
 have hov:=oZ (h1.blk 1 rfl) (h1.blk 0 rfl) hne (by omega);have HS:=FH h1.drew;have yO:=FH hct;have xG:=FH hc1;have xU:=FH hxl;have yr:=FH hxc;have yp:=FH hys;have hcm':=hcm;unfold maxLen at hcm';have hrd1:Rd w.drew 1 (.slice (some ⟨g,i,none⟩) (n+1-i) (cap-i)) (n+1-i) ((cur.drop (i*1)).take ((n+1-i)*1)):=by
  refine⟨by rw [F0,Ga];omega,by omega,_,_,rfl,by omega,by omega,(fun h=>by cases h),.inr ⟨g,_,rfl,fun j u hu=>?_⟩⟩;rw [cell_of_row _ g _ _ _ _ h1.drew.heap_blk];rw [List.getElem?_take]at hu;split at hu
  ·rw [List.getElem?_drop]at hu;simpa using hu
  ·cases hu
 have wQ:=FH hrd1;have xF:=FH (show(((cur.drop (i*1)).take ((n+1-i)*1)).take ((n-i)*1))=xs.drop (i*1) by
  rw [List.take_take,Nat.min_eq_left (by omega),←hct,List.drop_take]
  congr 1
  omega)
 have hfree:∀u∈xs.drop (i*1),u.oneCell'=true:=fun u hu=>hc1 u (Gd hu);have yP:=FH hfree;clear hs h1 hct hc1 hxl hxc hys hrd1 hsz0 hfree;have hm1:¬((1:Int)=0):=by omega
 have hin':¬((i:Int)=(n:Int)):=by omega
 have hw1:IntKind.i64.wrap ((i:Int)+1)=(i:Int)+1:=Gr _ (by omega);have hw2:IntKind.i64.wrap ((n:Int)+1)=(n:Int)+1:=Gr _ (by omega);have htn:((i:Int)+1).toNat=i+1:=by omega
 have hb1:(0:Int)≤(i:Int)+1:=by omega
 have hb2:¬(cap=i+1):=by omega
 have hin2:i≤n:=by omega
 have hb3:(i:Int)≤(n:Int)+1:=by omega
 have hb5:i≤n+1:=by omega
 have hb4:¬(cap=i):=by omega
 go_enter Tryz.func127,Tryz.ntmps127;go_wp2_with (simp only [hov]);refine aH [rq 0 8,rq 1 8,rq 2 8,rq 3 8,rq 4 8,rq 5 8,rq 6 8,rq 7 8,(8,true,0)] ?_;iterate 8 (refine ae rfl rfl fun K hK=>?_;go_simp;apply hK;clear hK K)
 refine af rfl ?_;refine bE _ rfl _ _ 117 117 rfl 3 1 Tryz.underlying117 (fun w=>Tryz.sizeOf3 w) g _ _ _ rfl cur HS.out _ _ (n-i) _ (xs.drop (i*1)) rfl wQ.out (by omega) xF.out (by omega) yP.out ?_;intro w2 h2;have wJ:=FH h2;clear h2 HS wQ yP hov;refine wpList_nil ?_;apply And.intro
 ·go_simp
 refine ag ?_;have hrd:=bC (size:=1) (n:=1) (wJ.out.blk 1 rfl) (by simpa using yr.out) (by unfold maxLen;omega);have hlen2:=cQ cur (i+1) (xs.drop (i*1)) (by rw [Ga,xU.out];omega);have zF:=FH hrd;have yl:=FH hlen2;clear hrd hlen2;go_wp2_with (show wpList _ _ _ (⟨some 82,_,_,_,_,_⟩::_) _ _;refine bE _ rfl _ _ 117 117 rfl 3 1 Tryz.underlying117 (fun w=>Tryz.sizeOf3 w) g _ _ _ rfl _ wJ.out _ _ 1 _ xc rfl zF.out (by omega) (by rw [FS (by simp [yr.out])]) (by rw [yl.out];omega) (by simpa using hx1) ?_;intro w3 h3;have wI:=FH h3;clear h3);go_ret;refine⟨_,rfl,wI.out.row_own (by omega) hcm (by rw [cQ _ _ _ (by rw [yl.out,yr.out];omega),yl.out];exact hcz) ?_ ?_⟩
 ·have e:=jt cur xs xc (i*1) 1 (n*1) yO.out (by omega) yr.out (by omega)
  have o1:(i+1)=i*1+1:=by omega
  have o2:i=i*1:=by omega
  have o3:(n+1)*1=n*1+1:=by omega
  rw [yp.out,o3,o1]
  first|exact e|(simp only [Nat.mul_one]at e ⊢;exact e)
 ·intro u hu
  rw [yp.out]at hu;rcases F2.1 hu with hu|hu
  ·rcases F2.1 hu with hu|hu
   ·exact xG.out u (Gf hu)
   ·exact hx1 u hu
  ·exact xG.out u (Gd hu)
theorem kW {B w:World}{D:PH}{l:List HP}{g n cap i:Nat}{xs xc ys:List Value}(hys:ys=xs.take (i*1)++xc++xs.drop (i*1))(hin:i<n)(hroom:cap<n+1)(hxc:xc.length=1)(hx1:∀u∈xc,u.oneCell'=true)(bx:Nat)(hb:(n+1)*8≤140737488355328)
  (hs:Sat B D w (aD 3 1 (.slice (some ⟨g,0,none⟩) n cap) n xs::blk bx xc.toArray 3::l)) :
  Calls Tryz.prog 127 #[.slice (some ⟨g,0,none⟩) n cap,.int .i64 i,.slice (some ⟨bx,0,none⟩) 1 1] w fun e w'=>∃v',e = .returned v'∧Sat B D w' (aD 3 1 v' (n+1) ys::blk bx xc.toArray 3::l):=by
 obtain⟨i0,hi,hz0,hz1,hz2⟩:=info_parts lB;have ho:=hs.own 0 rfl;have hle:=ho.le;obtain⟨_,_,hv,hnc,hcm,_⟩:=ho.rd.2.2;cases hv;have hxl:=ho.1;have hc1:=ho.2.1;unfold maxLen at hle hcm;have holds:∀j v,(xs.take (i*1))[j]?=some v→w.cell? ((⟨g,0,none⟩:Addr).add j)=some v:=fun j v hj=>by
  rw [ew,Nat.zero_add];rw [List.getElem?_take]at hj;split at hj
  ·exact ho.cells j v hj
  ·cases hj
 have HS:=FH hs;have HI:=FH (And.intro hi (And.intro hz0 (And.intro hz1 hz2)));have yE:=FH holds;have xU:=FH hxl;have xG:=FH hc1;have yr:=FH hxc;have yp:=FH hys;clear hs hi hz0 hz1 hz2 holds hxl hc1 hxc hys ho;have hm1:¬((1:Int)=0):=by omega
 have hin':¬((i:Int)=(n:Int)):=by omega
 have hcc:(cap:Int)<(n:Int)+1:=by omega
 have hw1:IntKind.i64.wrap ((i:Int)+1)=(i:Int)+1:=Gr _ (by omega);have hw2:IntKind.i64.wrap ((n:Int)+1)=(n:Int)+1:=Gr _ (by omega);have hw3:IntKind.i64.wrap ((n:Int)+1-(i:Int))=(n:Int)+1-(i:Int):=Gr _ (by omega);have htn:((i:Int)+1).toNat=i+1:=by omega
 have hb1:(0:Int)≤(i:Int)+1:=by omega
 have hb4:¬(cap=i):=by omega
 have hin2:i≤n:=by omega
 have hb3:(i:Int)≤(n:Int)+1:=by omega
 have hb5:i≤n+1:=by omega
 go_enter Tryz.func127,Tryz.ntmps127;go_upto_region 10 with (show wpList _ _ _ (⟨some 40,_,_,_,_,_⟩::_) _ _;refine di _ rfl _ _ 117 3 rfl 3 i0 _ 1 8 Tryz.underlying117 Tryz.underlying3 HI.out.1 HI.out.2.1 HI.out.2.2.1 HI.out.2.2.2 rfl pM ⟨g,0,none⟩ i cap rfl _ (by rw [F0,xU.out];omega) yE.out (fun u hu=>xG.out u (Gf hu)) (n+1-i) (by simp [Act.eval];omega) (by omega) (by omega) (by unfold maxLen;omega) (by omega) HS.out ?_;intro w2 g2 cap2 zs hzs hcap2 h2;rw [show i+(n+1-i)=n+1 by omega]at h2 hcap2;have H2:=FH h2;have Eu:=FH hzs;clear h2 hzs)
 obtain⟨cur,h1,_,hcm2,hcz,hct,hc2,hcl⟩:=H2.out.own_row;have hrx:=bC (size:=1) (n:=1) (h1.blk 2 rfl) (by simpa using yr.out) (by unfold maxLen;omega);have hg1:¬(cap2=i):=by omega
 have hg2:¬(cap2=i+1):=by omega
 have H1:=FH h1;have zF:=FH hrx;have yO:=FH hct;have yA:=FH hcm2;clear h1 hrx hct hc2 hcl H2 yE HI HS;unfold maxLen at hcm2;go_upto_region 11 with (show wpList _ _ _ (⟨some 45,_,_,_,_,_⟩::_) _ _;refine bE _ rfl _ _ 117 117 rfl 3 1 Tryz.underlying117 (fun w=>Tryz.sizeOf3 w) g2 _ _ _ rfl _ H1.out _ _ 1 _ xc rfl zF.out (by omega) (by rw [FS (by simp [yr.out])]) (by omega) (by simpa using hx1) ?_;intro w3 h3;have wI:=FH h3;clear h3)
 have hlen2:=cQ cur i xc (by rw [yr.out];omega);have hrd1:Rd w3.drew 1 (.slice (some ⟨g,i,none⟩) (n-i) (cap-i)) (n-i) (xs.drop (i*1)):=by
  refine⟨by rw [Ga,xU.out];omega,by unfold maxLen;omega,_,_,rfl,by omega,by unfold maxLen;omega,(fun h=>by cases h),.inr ⟨g,_,rfl,fun j u hu=>?_⟩⟩;rw [List.getElem?_drop]at hu;have:=(wI.out.own 1 rfl).cells _ u hu
  simpa using this
 have wO:=FH wI.out.drew;have wQ:=FH hrd1;have yl:=FH hlen2;have xF:=FH (show(xs.drop (i*1)).take ((n-i)*1)=xs.drop (i*1) by rw [FS (by rw [Ga,xU.out];omega)]);have xz:=FH (show ∀u∈xs.drop (i*1),u.oneCell'=true from fun u hu=>xG.out u (Gd hu));clear hrd1 hlen2 H1 zF wI;refine aH [rq 0 8,rq 1 8,rq 2 8,rq 3 8,rq 4 8,rq 5 8,rq 6 8,rq 7 8,(8,true,0)] ?_;iterate 8 (refine ae rfl rfl fun K hK=>?_;go_simp;apply hK;clear hK K)
 refine af rfl ?_;refine bE _ rfl _ _ 117 117 rfl 3 1 Tryz.underlying117 (fun w=>Tryz.sizeOf3 w) g2 _ _ _ rfl _ wO.out _ _ (n-i) _ (xs.drop (i*1)) rfl wQ.out (by omega) xF.out (by rw [yl.out];omega) xz.out ?_;intro w5 h5;have wT:=FH (h5.swap.drop);have H5:=FH h5;clear h5 wO wQ xz wT;refine wpList_nil ?_;apply And.intro
 ·go_simp
 refine ag ?_;go_wp2_with fail;go_ret;have hrow:=H5.out.row_own (n:=n+1) (cap:=cap2) (size:=1) (xs:=ys) (by omega) yA.out (by rw [cQ _ _ _ (by rw [yl.out,Ga,xU.out];omega),yl.out];exact hcz) ?_ ?_
 ·exact⟨_,rfl,hrow.swap.drop⟩
 ·have o1:(i+1)=i*1+1:=by omega
  have o3:(n+1)*1=n*1+1:=by omega
  have hct':=yO.out;rw [o3]at hct';have e:=im cur xs xc zs (i*1) 1 (n*1) hct' xU.out (by omega) yr.out;rw [yp.out,o3,o1]
  first|exact e|(simp only [Nat.mul_one]at e ⊢;exact e)
 ·intro u hu
  rw [yp.out]at hu;rcases F2.1 hu with hu|hu
  ·rcases F2.1 hu with hu|hu
   ·exact xG.out u (Gf hu)
   ·exact hx1 u hu
  ·exact xG.out u (Gd hu)
theorem jC {B w:World}{D:PH}{l:List HP}{v:Value}{n i:Nat}{xs xc:List Value}(hin:i≤n)(hxc:xc.length=1)(hx1:∀u∈xc,u.oneCell'=true)(bx:Nat)(hb:(n+1)*8≤140737488355328)
  (hs:Sat B D w (aD 3 1 v n xs::blk bx xc.toArray 3::l)) :
  Calls Tryz.prog 127 #[v,.int .i64 i,.slice (some ⟨bx,0,none⟩) 1 1] w fun e w'=>∃v',e = .returned v'∧Sat B D w' (aD 3 1 v' (n+1) (xs.take (i*1)++xc++xs.drop (i*1))::blk bx xc.toArray 3::l):=by
 have hxl:=(hs.own 0 rfl).1;by_cases h:i=n
 ·subst h
  have:=l7 hxc hx1 bx hb hs;rw [FS (by omega),Gk (by omega),List.append_nil];exact this
 ·obtain⟨g,cap,rfl,hnc,hcm⟩:=(hs.own 0 rfl).form (by omega)
  by_cases hroom:n+1≤cap
  ·exact kX rfl (by omega) hroom hxc hx1 bx hs
  ·exact kW rfl (by omega) (by omega) hxc hx1 bx hb hs
end Go.Proofs.YtdobimafhbfkhaaGreat
