/- The library's Clone, Insert, Delete of slices as the tree calls them. -/
import Derived.Test.YtdobimafhbfkhaaGreatOT3
import Derived.Deep.Cut
set_option maxHeartbeats 64000000
namespace Go.Proofs.YtdobimafhbfkhaaGreat
open Go.ChangeShapes Go.WideShapes Go.ChangeAt Go.RowKit
set_option maxRecDepth 100000
set_option linter.unusedSimpArgs false
theorem iU : (Tryz.prog.info? 24).map (fun i=>(i.zero,i.size,i.bytes))=some (some (.agg #[.bool false,.int .i64 0,.string ⟨#[]⟩]),3,32):=by kernel_rfl
theorem j5 : (Tryz.prog.info? 3).map (fun i=>(i.zero,i.size,i.bytes))=some (some (.int .i64 0),1,8):=by kernel_rfl
theorem nL : ∀u∈(Value.agg #[.bool false,.int .i64 0,.string ⟨#[]⟩]).cells.toList,u.oneCell'=true:=by intro u hu;simp [Value.cells]at hu;rcases hu with rfl|rfl|rfl<;>rfl
theorem oY : ∀u∈(Value.int .i64 0).cells.toList,u.oneCell'=true:=by intro u hu;simp [Value.cells]at hu;subst hu;rfl
theorem lP {B w:World}{D:PH}{l:List HP}{v:Value}{n:Nat}{xs:List Value}(hrd:Rd w 3 v n xs)(hone:∀u∈xs,u.oneCell'=true)(hb:n*32≤140737488355328)(hs:Sat B D w l) :
  Calls Tryz.prog 124 #[v] w fun e w'=>∃v',e = .returned v'∧Sat B D w' (aF 24 3 v' n xs::l):=by
 obtain⟨i0,hi,hz0,hz1,hz2⟩:=info_parts iU
 have hm:=hrd.2.1
 obtain⟨ao,cap,rfl,_,_,hnone,hcase⟩:=hrd.2.2
 cases ao with
 | none =>
  have h0:n=0:=by rcases hcase with h|⟨g,o,h,_⟩;exact h;cases h
  subst h0
  have hx:xs = []:=List.eq_nil_of_length_eq_zero (by simpa using hrd.1)
  subst hx
  have HS:=CM (hs.own_nil 24 3)
  clear hcase hnone hrd hz0 hz1 hz2 hi hb hs
  go_enter Tryz.func124,Tryz.ntmps124
  go_wp2_with fail
  go_ret
  exact⟨_,rfl,HS.out⟩
 | some a =>
  have hown:=Sat.own_fresh (e:=24) (size:=3) (n:=0) (cap:=0) (cs:=#[]) (xs:=[]) hs (by omega) (by omega) (by simp) (by simp) (by simp)
  have hrd2:Rd (w.alloc (.cells #[] 24)) 3 (.slice (some a) n cap) n xs:=hrd.kept ((Kept.refl (fun _=>False) _).alloc _) (fun _ _ h=>h)
  have HO:=CM hown
  have HR:=CM hrd2
  have HI:=CM (And.intro hi (And.intro hz0 (And.intro hz1 hz2)))
  clear hcase hnone hrd hz0 hz1 hz2 hi hs hown hrd2
  go_enter Tryz.func124,Tryz.ntmps124
  go_wp2_with (at_builtin;refine aI _ rfl _ _ 25 rfl 24 i0 _ 3 32 Tryz.underlying25 HI.out.1 HI.out.2.1 HI.out.2.2.1 HI.out.2.2.2 rfl _ 0 [] rfl HO.out _ n xs rfl HR.out hone (by omega) (by omega) ?_;intro v' w' h1 h2;simp only [Nat.zero_add,List.nil_append]at h1;have H1:=CM h1;clear h1 h2)
  go_ret
  exact⟨_,rfl,H1.out⟩
theorem lA {B w:World}{D:PH}{l:List HP}{v:Value}{n:Nat}{xs xc:List Value}(hxc:xc.length=3)(hx1:∀u∈xc,u.oneCell'=true)(bx:Nat)(hb:(n+1)*32≤140737488355328)(hs:Sat B D w (aF 24 3 v n xs::blk bx xc.toArray 24::l)) :
  Calls Tryz.prog 122 #[v,.int .i64 n,.slice (some ⟨bx,0,none⟩) 1 1] w fun e w'=>∃v',e = .returned v'∧Sat B D w' (aF 24 3 v' (n+1) (xs++xc)::blk bx xc.toArray 24::l):=by
 obtain⟨i0,hi,hz0,hz1,hz2⟩:=info_parts iU
 have hle:=(hs.own 0 rfl).le
 obtain⟨ao,cap,hv,hnc,hcm,_⟩:=(hs.own 0 rfl).rd.2.2
 subst hv
 have hrd:=cd (size:=3) (n:=1) (hs.blk 1 rfl) (by simpa using hxc) (by unfold maxLen;omega)
 unfold maxLen at hle hcm
 have HS:=CM hs
 have HR:=CM hrd
 have HI:=CM (And.intro hi (And.intro hz0 (And.intro hz1 hz2)))
 clear hi hz0 hz1 hz2 hs hrd
 have hm1:¬((1:Int)=0):=by omega
 go_enter Tryz.func122,Tryz.ntmps122
 go_wp2_with (at_builtin;refine aI _ rfl _ _ 25 rfl 24 i0 _ 3 32 Tryz.underlying25 HI.out.1 HI.out.2.1 HI.out.2.2.1 HI.out.2.2.2 rfl _ n xs rfl HS.out _ 1 _ rfl HR.out (by simpa using hx1) (by unfold maxLen;omega) (by omega) ?_;intro v' w' h1 h2;have H1:=CM h1;clear h1 h2)
 all_goals
  go_ret
  exact⟨_,rfl,by simpa using H1.out⟩
theorem nB {w:World}{bx g:Nat}{xc cur:Array Value}(h1:w.heap[bx]?=some (.cells xc 24 (0,0)))(h2:w.heap[g]?=some (.cells cur 24 (0,0)))(hne:bx≠g)(hc:cur.size≠0)(la ca lb cb off:Nat) :
  (callFunc 135 #[.slice (some ⟨bx,0,none⟩) la ca,.slice (some ⟨g,off,none⟩) lb cb]).run Tryz.prog w = .ok (.value (.bool false)) w:=by
 rw [run_callFunc_extern Tryz.func135 (by kernel_rfl) (by kernel_rfl) (by kernel_rfl) (e:=Extern.SlicesOverlaps.overlaps #[25,25] #[4]) (by kernel_rfl),
  Lib.run_overlaps_apart w 25 4 24 Tryz.underlying25 3 (fun w=>Tryz.sizeOf24 w) ⟨bx,0,none⟩ ⟨g,off,none⟩ la ca lb cb hne 24 24 xc.size cur.size (by simp [World.shape?,h1]) (by simp [World.shape?,h2]) hc (by simp [World.frozen?,h1]) (by simp [World.frozen?,h1])]
 rfl
theorem jQ {B w:World}{D:PH}{l:List HP}{g n cap i:Nat}{xs xc ys:List Value}(hys:ys=xs.take (i*3)++xc++xs.drop (i*3))(hin:i<n)(hroom:n+1≤cap)(hxc:xc.length=3)(hx1:∀u∈xc,u.oneCell'=true)(bx:Nat)(hs:Sat B D w (aF 24 3 (.slice (some ⟨g,0,none⟩) n cap) n xs::blk bx xc.toArray 24::l)) :
  Calls Tryz.prog 122 #[.slice (some ⟨g,0,none⟩) n cap,.int .i64 i,.slice (some ⟨bx,0,none⟩) 1 1] w fun e w'=>∃v',e = .returned v'∧Sat B D w' (aF 24 3 v' (n+1) ys::blk bx xc.toArray 24::l):=by
 obtain⟨cur,h1,hnc,hcm,hcz,hct,hc1,hxl⟩:=hs.own_row
 have hne:=h1.ne 1 0 (by omega) rfl rfl
 have hsz0:cur.toArray.size=cur.length:=by simp
 have hov:=nB (h1.blk 1 rfl) (h1.blk 0 rfl) hne (by omega)
 have HS:=CM h1.drew
 have vM:=CM hct
 have uV:=CM hc1
 have HXL:=CM hxl
 have vx:=CM hxc
 have vq:=CM hys
 have hcm':=hcm
 unfold maxLen at hcm'
 have hrd1:Rd w.drew 3 (.slice (some ⟨g,(i*3),none⟩) (n+1-i) (cap-i)) (n+1-i) ((cur.drop (i*3)).take ((n+1-i)*3)):=by
  refine⟨by rw [List.length_take,List.length_drop];omega,by omega,_,_,rfl,by omega,by omega,(fun h=>by cases h),.inr ⟨g,_,rfl,fun j u hu=>?_⟩⟩
  rw [cell_of_row _ g _ _ _ _ h1.drew.heap_blk]
  rw [List.getElem?_take]at hu
  split at hu
  ·rw [List.getElem?_drop]at hu;simpa using hu
  ·cases hu
 have uw:=CM hrd1
 have HCS:=CM (show(((cur.drop (i*3)).take ((n+1-i)*3)).take ((n-i)*3))=xs.drop (i*3) by
  rw [List.take_take,Nat.min_eq_left (by omega),←hct,List.drop_take]
  congr 1
  omega)
 have hfree:∀u∈xs.drop (i*3),u.oneCell'=true:=fun u hu=>hc1 u (List.mem_of_mem_drop hu)
 have vN:=CM hfree
 clear hs h1 hct hc1 hxl hxc hys hrd1 hsz0 hfree
 have hm1:¬((1:Int)=0):=by omega
 have hin':¬((i:Int)=(n:Int)):=by omega
 have hw1:IntKind.i64.wrap ((i:Int)+1)=(i:Int)+1:=IntWalk.i64_in _ (by omega)
 have hw2:IntKind.i64.wrap ((n:Int)+1)=(n:Int)+1:=IntWalk.i64_in _ (by omega)
 have htn:((i:Int)+1).toNat=i+1:=by omega
 have hb1:(0:Int)≤(i:Int)+1:=by omega
 have hb2:¬(cap=i+1):=by omega
 have hin2:i≤n:=by omega
 have hb3:(i:Int)≤(n:Int)+1:=by omega
 have hb5:i≤n+1:=by omega
 have hb4:¬(cap=i):=by omega
 go_enter Tryz.func122,Tryz.ntmps122
 go_wp2_with (simp only [hov])
 refine af [(0,false,8),(1,false,8),(2,false,8),(3,false,8),(4,false,8),(5,false,8),(6,false,8),(7,false,8),(8,true,0)] (by kernel_rfl) (by kernel_rfl) ?_
 iterate 8 (refine ae rfl rfl (fun K hK=>?_);go_simp;refine hK _ ?_;clear hK K)
 refine ag rfl ?_
 refine bJ _ rfl _ _ 25 25 rfl 24 3 Tryz.underlying25 (fun w=>Tryz.sizeOf24 w) g _ _ _ rfl cur HS.out _ _ (n-i) _ (xs.drop (i*3)) rfl uw.out (by omega) HCS.out (by omega) vN.out ?_
 intro w2 h2
 have ur:=CM h2
 clear h2 HS uw vN hov
 refine wpList_nil ?_
 refine And.intro ?_ ?_
 ·go_simp
 refine ah ?_
 have hrd:=cd (size:=3) (n:=1) (ur.out.blk 1 rfl) (by simpa using vx.out) (by unfold maxLen;omega)
 have hlen2:=cE cur ((i+1)*3) (xs.drop (i*3)) (by rw [List.length_drop,HXL.out];omega)
 have wC:=CM hrd
 have vi:=CM hlen2
 clear hrd hlen2
 go_wp2_with (show wpList _ _ _ (⟨some 82,_,_,_,_,_⟩::_) _ _;refine bJ _ rfl _ _ 25 25 rfl 24 3 Tryz.underlying25 (fun w=>Tryz.sizeOf24 w) g _ _ _ rfl _ ur.out _ _ 1 _ xc rfl wC.out (by omega) (by rw [List.take_of_length_le (by simp [vx.out])]) (by rw [vi.out];omega) (by simpa using hx1) ?_;intro w3 h3;have ut:=CM h3;clear h3)
 go_ret
 refine⟨_,rfl,ut.out.row_own (by omega) hcm (by rw [cE _ _ _ (by rw [vi.out,vx.out];omega),vi.out];exact hcz) ?_ ?_⟩
 ·have e:=iC cur xs xc (i*3) 3 (n*3) vM.out (by omega) vx.out (by omega)
  have o1:((i+1)*3)=i*3+3:=by omega
  have o2:(i*3)=i*3:=by omega
  have o3:(n+1)*3=n*3+3:=by omega
  rw [vq.out,o3,o1]
  first|exact e|(simp only [Nat.mul_one]at e ⊢;exact e)
 ·intro u hu
  rw [vq.out]at hu
  rcases List.mem_append.1 hu with hu|hu
  ·rcases List.mem_append.1 hu with hu|hu
   ·exact uV.out u (List.mem_of_mem_take hu)
   ·exact hx1 u hu
  ·exact uV.out u (List.mem_of_mem_drop hu)
theorem jL {B w:World}{D:PH}{l:List HP}{g n cap i:Nat}{xs xc ys:List Value}(hys:ys=xs.take (i*3)++xc++xs.drop (i*3))(hin:i<n)(hroom:cap<n+1)(hxc:xc.length=3)(hx1:∀u∈xc,u.oneCell'=true)(bx:Nat)(hb:(n+1)*32≤140737488355328)
  (hs:Sat B D w (aF 24 3 (.slice (some ⟨g,0,none⟩) n cap) n xs::blk bx xc.toArray 24::l)) :
  Calls Tryz.prog 122 #[.slice (some ⟨g,0,none⟩) n cap,.int .i64 i,.slice (some ⟨bx,0,none⟩) 1 1] w fun e w'=>∃v',e = .returned v'∧Sat B D w' (aF 24 3 v' (n+1) ys::blk bx xc.toArray 24::l):=by
 obtain⟨i0,hi,hz0,hz1,hz2⟩:=info_parts iU
 have ho:=hs.own 0 rfl
 have hle:=ho.le
 obtain⟨_,_,hv,hnc,hcm,_⟩:=ho.rd.2.2
 cases hv
 have hxl:=ho.1
 have hc1:=ho.2.1
 unfold maxLen at hle hcm
 have holds:∀j v,(xs.take (i*3))[j]?=some v→w.cell? ((⟨g,0,none⟩:Addr).add j)=some v:=fun j v hj=>by
  rw [dX,Nat.zero_add]
  rw [List.getElem?_take]at hj
  split at hj
  ·exact ho.cells j v hj
  ·cases hj
 have HS:=CM hs
 have HI:=CM (And.intro hi (And.intro hz0 (And.intro hz1 hz2)))
 have vF:=CM holds
 have HXL:=CM hxl
 have uV:=CM hc1
 have vx:=CM hxc
 have vq:=CM hys
 clear hs hi hz0 hz1 hz2 holds hxl hc1 hxc hys ho
 have hm1:¬((1:Int)=0):=by omega
 have hin':¬((i:Int)=(n:Int)):=by omega
 have hcc:(cap:Int)<(n:Int)+1:=by omega
 have hw1:IntKind.i64.wrap ((i:Int)+1)=(i:Int)+1:=IntWalk.i64_in _ (by omega)
 have hw2:IntKind.i64.wrap ((n:Int)+1)=(n:Int)+1:=IntWalk.i64_in _ (by omega)
 have hw3:IntKind.i64.wrap ((n:Int)+1-(i:Int))=(n:Int)+1-(i:Int):=IntWalk.i64_in _ (by omega)
 have htn:((i:Int)+1).toNat=i+1:=by omega
 have hb1:(0:Int)≤(i:Int)+1:=by omega
 have hb4:¬(cap=i):=by omega
 have hin2:i≤n:=by omega
 have hb3:(i:Int)≤(n:Int)+1:=by omega
 have hb5:i≤n+1:=by omega
 go_enter Tryz.func122,Tryz.ntmps122
 go_upto_region 10 with (show wpList _ _ _ (⟨some 40,_,_,_,_,_⟩::_) _ _;refine cX _ rfl _ _ 25 3 rfl 24 i0 _ 3 32 Tryz.underlying25 Tryz.underlying3 HI.out.1 HI.out.2.1 HI.out.2.2.1 HI.out.2.2.2 rfl nL ⟨g,0,none⟩ i cap rfl _ (by rw [List.length_take,HXL.out];omega) vF.out (fun u hu=>uV.out u (List.mem_of_mem_take hu)) (n+1-i) (by simp [Act.eval];omega) (by omega) (by omega) (by unfold maxLen;omega) (by omega) HS.out ?_;intro w2 g2 cap2 zs hzs hcap2 h2;rw [show i+(n+1-i)=n+1 by omega]at h2 hcap2;have H2:=CM h2;have zO:=CM hzs;clear h2 hzs)
 obtain⟨cur,h1,_,hcm2,hcz,hct,hc2,hcl⟩:=H2.out.own_row
 have hrx:=cd (size:=3) (n:=1) (h1.blk 2 rfl) (by simpa using vx.out) (by unfold maxLen;omega)
 have hg1:¬(cap2=i):=by omega
 have hg2:¬(cap2=i+1):=by omega
 have H1:=CM h1
 have wC:=CM hrx
 have vM:=CM hct
 have xC:=CM hcm2
 clear h1 hrx hct hc2 hcl H2 vF HI HS
 unfold maxLen at hcm2
 go_upto_region 11 with (show wpList _ _ _ (⟨some 45,_,_,_,_,_⟩::_) _ _;refine bJ _ rfl _ _ 25 25 rfl 24 3 Tryz.underlying25 (fun w=>Tryz.sizeOf24 w) g2 _ _ _ rfl _ H1.out _ _ 1 _ xc rfl wC.out (by omega) (by rw [List.take_of_length_le (by simp [vx.out])]) (by omega) (by simpa using hx1) ?_;intro w3 h3;have ut:=CM h3;clear h3)
 have hlen2:=cE cur (i*3) xc (by rw [vx.out];omega)
 have hrd1:Rd w3.drew 3 (.slice (some ⟨g,(i*3),none⟩) (n-i) (cap-i)) (n-i) (xs.drop (i*3)):=by
  refine⟨by rw [List.length_drop,HXL.out];omega,by unfold maxLen;omega,_,_,rfl,by omega,by unfold maxLen;omega,(fun h=>by cases h),.inr ⟨g,_,rfl,fun j u hu=>?_⟩⟩
  rw [List.getElem?_drop]at hu
  have:=(ut.out.own 1 rfl).cells _ u hu
  simpa using this
 have uy:=CM ut.out.drew
 have uw:=CM hrd1
 have vi:=CM hlen2
 have HCS:=CM (show(xs.drop (i*3)).take ((n-i)*3)=xs.drop (i*3) by rw [List.take_of_length_le (by rw [List.length_drop,HXL.out];omega)])
 have uO:=CM (show ∀u∈xs.drop (i*3),u.oneCell'=true from fun u hu=>uV.out u (List.mem_of_mem_drop hu))
 clear hrd1 hlen2 H1 wC ut
 refine af [(0,false,8),(1,false,8),(2,false,8),(3,false,8),(4,false,8),(5,false,8),(6,false,8),(7,false,8),(8,true,0)] (by kernel_rfl) (by kernel_rfl) ?_
 iterate 8 (refine ae rfl rfl (fun K hK=>?_);go_simp;refine hK _ ?_;clear hK K)
 refine ag rfl ?_
 refine bJ _ rfl _ _ 25 25 rfl 24 3 Tryz.underlying25 (fun w=>Tryz.sizeOf24 w) g2 _ _ _ rfl _ uy.out _ _ (n-i) _ (xs.drop (i*3)) rfl uw.out (by omega) HCS.out (by rw [vi.out];omega) uO.out ?_
 intro w5 h5
 have uA:=CM (h5.swap.drop)
 have H5:=CM h5
 clear h5 uy uw uO uA
 refine wpList_nil ?_
 refine And.intro ?_ ?_
 ·go_simp
 refine ah ?_
 go_wp2_with fail
 go_ret
 have hrow:=H5.out.row_own (n:=n+1) (cap:=cap2) (size:=3) (xs:=ys) (by omega) xC.out (by rw [cE _ _ _ (by rw [vi.out,List.length_drop,HXL.out];omega),vi.out];exact hcz) ?_ ?_
 ·exact⟨_,rfl,hrow.swap.drop⟩
 ·have o1:((i+1)*3)=i*3+3:=by omega
  have o3:(n+1)*3=n*3+3:=by omega
  have hct':=vM.out
  rw [o3]at hct'
  have e:=go cur xs xc zs (i*3) 3 (n*3) hct' HXL.out (by omega) vx.out
  rw [vq.out,o3,o1]
  first|exact e|(simp only [Nat.mul_one]at e ⊢;exact e)
 ·intro u hu
  rw [vq.out]at hu
  rcases List.mem_append.1 hu with hu|hu
  ·rcases List.mem_append.1 hu with hu|hu
   ·exact uV.out u (List.mem_of_mem_take hu)
   ·exact hx1 u hu
  ·exact uV.out u (List.mem_of_mem_drop hu)
theorem fY {B w:World}{D:PH}{l:List HP}{v:Value}{n i:Nat}{xs xc:List Value}(hin:i≤n)(hxc:xc.length=3)(hx1:∀u∈xc,u.oneCell'=true)(bx:Nat)(hb:(n+1)*32≤140737488355328)
  (hs:Sat B D w (aF 24 3 v n xs::blk bx xc.toArray 24::l)) :
  Calls Tryz.prog 122 #[v,.int .i64 i,.slice (some ⟨bx,0,none⟩) 1 1] w fun e w'=>∃v',e = .returned v'∧Sat B D w' (aF 24 3 v' (n+1) (xs.take (i*3)++xc++xs.drop (i*3))::blk bx xc.toArray 24::l):=by
 have hxl:=(hs.own 0 rfl).1
 by_cases h:i=n
 ·subst h
  have:=lA hxc hx1 bx hb hs
  rw [List.take_of_length_le (by omega),List.drop_of_length_le (by omega),List.append_nil]
  exact this
 ·obtain⟨g,cap,rfl,hnc,hcm⟩:=(hs.own 0 rfl).form (by omega)
  by_cases hroom:n+1≤cap
  ·exact jQ rfl (by omega) hroom hxc hx1 bx hs
  ·exact jL rfl (by omega) (by omega) hxc hx1 bx hb hs
theorem qW {B w:World}{D:PH}{l:List HP}{v:Value}{n:Nat}{xs:List Value}(hrd:Rd w 1 v n xs)(hone:∀u∈xs,u.oneCell'=true)(hb:n*8≤140737488355328)(hs:Sat B D w l) :
  Calls Tryz.prog 126 #[v] w fun e w'=>∃v',e = .returned v'∧Sat B D w' (aF 3 1 v' n xs::l):=by
 obtain⟨i0,hi,hz0,hz1,hz2⟩:=info_parts j5
 have hm:=hrd.2.1
 obtain⟨ao,cap,rfl,_,_,hnone,hcase⟩:=hrd.2.2
 cases ao with
 | none =>
  have h0:n=0:=by rcases hcase with h|⟨g,o,h,_⟩;exact h;cases h
  subst h0
  have hx:xs = []:=List.eq_nil_of_length_eq_zero (by simpa using hrd.1)
  subst hx
  have HS:=CM (hs.own_nil 3 1)
  clear hcase hnone hrd hz0 hz1 hz2 hi hb hs
  go_enter Tryz.func126,Tryz.ntmps126
  go_wp2_with fail
  go_ret
  exact⟨_,rfl,HS.out⟩
 | some a =>
  have hown:=Sat.own_fresh (e:=3) (size:=1) (n:=0) (cap:=0) (cs:=#[]) (xs:=[]) hs (by omega) (by omega) (by simp) (by simp) (by simp)
  have hrd2:Rd (w.alloc (.cells #[] 3)) 1 (.slice (some a) n cap) n xs:=hrd.kept ((Kept.refl (fun _=>False) _).alloc _) (fun _ _ h=>h)
  have HO:=CM hown
  have HR:=CM hrd2
  have HI:=CM (And.intro hi (And.intro hz0 (And.intro hz1 hz2)))
  clear hcase hnone hrd hz0 hz1 hz2 hi hs hown hrd2
  go_enter Tryz.func126,Tryz.ntmps126
  go_wp2_with (at_builtin;refine aI _ rfl _ _ 117 rfl 3 i0 _ 1 8 Tryz.underlying117 HI.out.1 HI.out.2.1 HI.out.2.2.1 HI.out.2.2.2 rfl _ 0 [] rfl HO.out _ n xs rfl HR.out hone (by omega) (by omega) ?_;intro v' w' h1 h2;simp only [Nat.zero_add,List.nil_append]at h1;have H1:=CM h1;clear h1 h2)
  go_ret
  exact⟨_,rfl,H1.out⟩
theorem kF {B w:World}{D:PH}{l:List HP}{v:Value}{n:Nat}{xs xc:List Value}(hxc:xc.length=1)(hx1:∀u∈xc,u.oneCell'=true)(bx:Nat)(hb:(n+1)*8≤140737488355328)(hs:Sat B D w (aF 3 1 v n xs::blk bx xc.toArray 3::l)) :
  Calls Tryz.prog 127 #[v,.int .i64 n,.slice (some ⟨bx,0,none⟩) 1 1] w fun e w'=>∃v',e = .returned v'∧Sat B D w' (aF 3 1 v' (n+1) (xs++xc)::blk bx xc.toArray 3::l):=by
 obtain⟨i0,hi,hz0,hz1,hz2⟩:=info_parts j5
 have hle:=(hs.own 0 rfl).le
 obtain⟨ao,cap,hv,hnc,hcm,_⟩:=(hs.own 0 rfl).rd.2.2
 subst hv
 have hrd:=cd (size:=1) (n:=1) (hs.blk 1 rfl) (by simpa using hxc) (by unfold maxLen;omega)
 unfold maxLen at hle hcm
 have HS:=CM hs
 have HR:=CM hrd
 have HI:=CM (And.intro hi (And.intro hz0 (And.intro hz1 hz2)))
 clear hi hz0 hz1 hz2 hs hrd
 have hm1:¬((1:Int)=0):=by omega
 go_enter Tryz.func127,Tryz.ntmps127
 go_wp2_with (at_builtin;refine aI _ rfl _ _ 117 rfl 3 i0 _ 1 8 Tryz.underlying117 HI.out.1 HI.out.2.1 HI.out.2.2.1 HI.out.2.2.2 rfl _ n xs rfl HS.out _ 1 _ rfl HR.out (by simpa using hx1) (by unfold maxLen;omega) (by omega) ?_;intro v' w' h1 h2;have H1:=CM h1;clear h1 h2)
 all_goals
  go_ret
  exact⟨_,rfl,by simpa using H1.out⟩
theorem mW {w:World}{bx g:Nat}{xc cur:Array Value}(h1:w.heap[bx]?=some (.cells xc 3 (0,0)))(h2:w.heap[g]?=some (.cells cur 3 (0,0)))(hne:bx≠g)(hc:cur.size≠0)(la ca lb cb off:Nat) :
  (callFunc 139 #[.slice (some ⟨bx,0,none⟩) la ca,.slice (some ⟨g,off,none⟩) lb cb]).run Tryz.prog w = .ok (.value (.bool false)) w:=by
 rw [run_callFunc_extern Tryz.func139 (by kernel_rfl) (by kernel_rfl) (by kernel_rfl) (e:=Extern.SlicesOverlaps.overlaps #[117,117] #[4]) (by kernel_rfl),
  Lib.run_overlaps_apart w 117 4 3 Tryz.underlying117 1 (fun w=>Tryz.sizeOf3 w) ⟨bx,0,none⟩ ⟨g,off,none⟩ la ca lb cb hne 3 3 xc.size cur.size (by simp [World.shape?,h1]) (by simp [World.shape?,h2]) hc (by simp [World.frozen?,h1]) (by simp [World.frozen?,h1])]
 rfl
theorem jM {B w:World}{D:PH}{l:List HP}{g n cap i:Nat}{xs xc ys:List Value}(hys:ys=xs.take (i*1)++xc++xs.drop (i*1))(hin:i<n)(hroom:n+1≤cap)(hxc:xc.length=1)(hx1:∀u∈xc,u.oneCell'=true)(bx:Nat)(hs:Sat B D w (aF 3 1 (.slice (some ⟨g,0,none⟩) n cap) n xs::blk bx xc.toArray 3::l)) :
  Calls Tryz.prog 127 #[.slice (some ⟨g,0,none⟩) n cap,.int .i64 i,.slice (some ⟨bx,0,none⟩) 1 1] w fun e w'=>∃v',e = .returned v'∧Sat B D w' (aF 3 1 v' (n+1) ys::blk bx xc.toArray 3::l):=by
 obtain⟨cur,h1,hnc,hcm,hcz,hct,hc1,hxl⟩:=hs.own_row
 have hne:=h1.ne 1 0 (by omega) rfl rfl
 have hsz0:cur.toArray.size=cur.length:=by simp
 have hov:=mW (h1.blk 1 rfl) (h1.blk 0 rfl) hne (by omega)
 have HS:=CM h1.drew
 have vM:=CM hct
 have uV:=CM hc1
 have HXL:=CM hxl
 have vx:=CM hxc
 have vq:=CM hys
 have hcm':=hcm
 unfold maxLen at hcm'
 have hrd1:Rd w.drew 1 (.slice (some ⟨g,i,none⟩) (n+1-i) (cap-i)) (n+1-i) ((cur.drop (i*1)).take ((n+1-i)*1)):=by
  refine⟨by rw [List.length_take,List.length_drop];omega,by omega,_,_,rfl,by omega,by omega,(fun h=>by cases h),.inr ⟨g,_,rfl,fun j u hu=>?_⟩⟩
  rw [cell_of_row _ g _ _ _ _ h1.drew.heap_blk]
  rw [List.getElem?_take]at hu
  split at hu
  ·rw [List.getElem?_drop]at hu;simpa using hu
  ·cases hu
 have uw:=CM hrd1
 have HCS:=CM (show(((cur.drop (i*1)).take ((n+1-i)*1)).take ((n-i)*1))=xs.drop (i*1) by
  rw [List.take_take,Nat.min_eq_left (by omega),←hct,List.drop_take]
  congr 1
  omega)
 have hfree:∀u∈xs.drop (i*1),u.oneCell'=true:=fun u hu=>hc1 u (List.mem_of_mem_drop hu)
 have vN:=CM hfree
 clear hs h1 hct hc1 hxl hxc hys hrd1 hsz0 hfree
 have hm1:¬((1:Int)=0):=by omega
 have hin':¬((i:Int)=(n:Int)):=by omega
 have hw1:IntKind.i64.wrap ((i:Int)+1)=(i:Int)+1:=IntWalk.i64_in _ (by omega)
 have hw2:IntKind.i64.wrap ((n:Int)+1)=(n:Int)+1:=IntWalk.i64_in _ (by omega)
 have htn:((i:Int)+1).toNat=i+1:=by omega
 have hb1:(0:Int)≤(i:Int)+1:=by omega
 have hb2:¬(cap=i+1):=by omega
 have hin2:i≤n:=by omega
 have hb3:(i:Int)≤(n:Int)+1:=by omega
 have hb5:i≤n+1:=by omega
 have hb4:¬(cap=i):=by omega
 go_enter Tryz.func127,Tryz.ntmps127
 go_wp2_with (simp only [hov])
 refine af [(0,false,8),(1,false,8),(2,false,8),(3,false,8),(4,false,8),(5,false,8),(6,false,8),(7,false,8),(8,true,0)] (by kernel_rfl) (by kernel_rfl) ?_
 iterate 8 (refine ae rfl rfl (fun K hK=>?_);go_simp;refine hK _ ?_;clear hK K)
 refine ag rfl ?_
 refine bJ _ rfl _ _ 117 117 rfl 3 1 Tryz.underlying117 (fun w=>Tryz.sizeOf3 w) g _ _ _ rfl cur HS.out _ _ (n-i) _ (xs.drop (i*1)) rfl uw.out (by omega) HCS.out (by omega) vN.out ?_
 intro w2 h2
 have ur:=CM h2
 clear h2 HS uw vN hov
 refine wpList_nil ?_
 refine And.intro ?_ ?_
 ·go_simp
 refine ah ?_
 have hrd:=cd (size:=1) (n:=1) (ur.out.blk 1 rfl) (by simpa using vx.out) (by unfold maxLen;omega)
 have hlen2:=cE cur (i+1) (xs.drop (i*1)) (by rw [List.length_drop,HXL.out];omega)
 have wC:=CM hrd
 have vi:=CM hlen2
 clear hrd hlen2
 go_wp2_with (show wpList _ _ _ (⟨some 82,_,_,_,_,_⟩::_) _ _;refine bJ _ rfl _ _ 117 117 rfl 3 1 Tryz.underlying117 (fun w=>Tryz.sizeOf3 w) g _ _ _ rfl _ ur.out _ _ 1 _ xc rfl wC.out (by omega) (by rw [List.take_of_length_le (by simp [vx.out])]) (by rw [vi.out];omega) (by simpa using hx1) ?_;intro w3 h3;have ut:=CM h3;clear h3)
 go_ret
 refine⟨_,rfl,ut.out.row_own (by omega) hcm (by rw [cE _ _ _ (by rw [vi.out,vx.out];omega),vi.out];exact hcz) ?_ ?_⟩
 ·have e:=iC cur xs xc (i*1) 1 (n*1) vM.out (by omega) vx.out (by omega)
  have o1:(i+1)=i*1+1:=by omega
  have o2:i=i*1:=by omega
  have o3:(n+1)*1=n*1+1:=by omega
  rw [vq.out,o3,o1]
  first|exact e|(simp only [Nat.mul_one]at e ⊢;exact e)
 ·intro u hu
  rw [vq.out]at hu
  rcases List.mem_append.1 hu with hu|hu
  ·rcases List.mem_append.1 hu with hu|hu
   ·exact uV.out u (List.mem_of_mem_take hu)
   ·exact hx1 u hu
  ·exact uV.out u (List.mem_of_mem_drop hu)
theorem jR {B w:World}{D:PH}{l:List HP}{g n cap i:Nat}{xs xc ys:List Value}(hys:ys=xs.take (i*1)++xc++xs.drop (i*1))(hin:i<n)(hroom:cap<n+1)(hxc:xc.length=1)(hx1:∀u∈xc,u.oneCell'=true)(bx:Nat)(hb:(n+1)*8≤140737488355328)
  (hs:Sat B D w (aF 3 1 (.slice (some ⟨g,0,none⟩) n cap) n xs::blk bx xc.toArray 3::l)) :
  Calls Tryz.prog 127 #[.slice (some ⟨g,0,none⟩) n cap,.int .i64 i,.slice (some ⟨bx,0,none⟩) 1 1] w fun e w'=>∃v',e = .returned v'∧Sat B D w' (aF 3 1 v' (n+1) ys::blk bx xc.toArray 3::l):=by
 obtain⟨i0,hi,hz0,hz1,hz2⟩:=info_parts j5
 have ho:=hs.own 0 rfl
 have hle:=ho.le
 obtain⟨_,_,hv,hnc,hcm,_⟩:=ho.rd.2.2
 cases hv
 have hxl:=ho.1
 have hc1:=ho.2.1
 unfold maxLen at hle hcm
 have holds:∀j v,(xs.take (i*1))[j]?=some v→w.cell? ((⟨g,0,none⟩:Addr).add j)=some v:=fun j v hj=>by
  rw [dX,Nat.zero_add]
  rw [List.getElem?_take]at hj
  split at hj
  ·exact ho.cells j v hj
  ·cases hj
 have HS:=CM hs
 have HI:=CM (And.intro hi (And.intro hz0 (And.intro hz1 hz2)))
 have vF:=CM holds
 have HXL:=CM hxl
 have uV:=CM hc1
 have vx:=CM hxc
 have vq:=CM hys
 clear hs hi hz0 hz1 hz2 holds hxl hc1 hxc hys ho
 have hm1:¬((1:Int)=0):=by omega
 have hin':¬((i:Int)=(n:Int)):=by omega
 have hcc:(cap:Int)<(n:Int)+1:=by omega
 have hw1:IntKind.i64.wrap ((i:Int)+1)=(i:Int)+1:=IntWalk.i64_in _ (by omega)
 have hw2:IntKind.i64.wrap ((n:Int)+1)=(n:Int)+1:=IntWalk.i64_in _ (by omega)
 have hw3:IntKind.i64.wrap ((n:Int)+1-(i:Int))=(n:Int)+1-(i:Int):=IntWalk.i64_in _ (by omega)
 have htn:((i:Int)+1).toNat=i+1:=by omega
 have hb1:(0:Int)≤(i:Int)+1:=by omega
 have hb4:¬(cap=i):=by omega
 have hin2:i≤n:=by omega
 have hb3:(i:Int)≤(n:Int)+1:=by omega
 have hb5:i≤n+1:=by omega
 go_enter Tryz.func127,Tryz.ntmps127
 go_upto_region 10 with (show wpList _ _ _ (⟨some 40,_,_,_,_,_⟩::_) _ _;refine cX _ rfl _ _ 117 3 rfl 3 i0 _ 1 8 Tryz.underlying117 Tryz.underlying3 HI.out.1 HI.out.2.1 HI.out.2.2.1 HI.out.2.2.2 rfl oY ⟨g,0,none⟩ i cap rfl _ (by rw [List.length_take,HXL.out];omega) vF.out (fun u hu=>uV.out u (List.mem_of_mem_take hu)) (n+1-i) (by simp [Act.eval];omega) (by omega) (by omega) (by unfold maxLen;omega) (by omega) HS.out ?_;intro w2 g2 cap2 zs hzs hcap2 h2;rw [show i+(n+1-i)=n+1 by omega]at h2 hcap2;have H2:=CM h2;have zO:=CM hzs;clear h2 hzs)
 obtain⟨cur,h1,_,hcm2,hcz,hct,hc2,hcl⟩:=H2.out.own_row
 have hrx:=cd (size:=1) (n:=1) (h1.blk 2 rfl) (by simpa using vx.out) (by unfold maxLen;omega)
 have hg1:¬(cap2=i):=by omega
 have hg2:¬(cap2=i+1):=by omega
 have H1:=CM h1
 have wC:=CM hrx
 have vM:=CM hct
 have xC:=CM hcm2
 clear h1 hrx hct hc2 hcl H2 vF HI HS
 unfold maxLen at hcm2
 go_upto_region 11 with (show wpList _ _ _ (⟨some 45,_,_,_,_,_⟩::_) _ _;refine bJ _ rfl _ _ 117 117 rfl 3 1 Tryz.underlying117 (fun w=>Tryz.sizeOf3 w) g2 _ _ _ rfl _ H1.out _ _ 1 _ xc rfl wC.out (by omega) (by rw [List.take_of_length_le (by simp [vx.out])]) (by omega) (by simpa using hx1) ?_;intro w3 h3;have ut:=CM h3;clear h3)
 have hlen2:=cE cur i xc (by rw [vx.out];omega)
 have hrd1:Rd w3.drew 1 (.slice (some ⟨g,i,none⟩) (n-i) (cap-i)) (n-i) (xs.drop (i*1)):=by
  refine⟨by rw [List.length_drop,HXL.out];omega,by unfold maxLen;omega,_,_,rfl,by omega,by unfold maxLen;omega,(fun h=>by cases h),.inr ⟨g,_,rfl,fun j u hu=>?_⟩⟩
  rw [List.getElem?_drop]at hu
  have:=(ut.out.own 1 rfl).cells _ u hu
  simpa using this
 have uy:=CM ut.out.drew
 have uw:=CM hrd1
 have vi:=CM hlen2
 have HCS:=CM (show(xs.drop (i*1)).take ((n-i)*1)=xs.drop (i*1) by rw [List.take_of_length_le (by rw [List.length_drop,HXL.out];omega)])
 have uO:=CM (show ∀u∈xs.drop (i*1),u.oneCell'=true from fun u hu=>uV.out u (List.mem_of_mem_drop hu))
 clear hrd1 hlen2 H1 wC ut
 refine af [(0,false,8),(1,false,8),(2,false,8),(3,false,8),(4,false,8),(5,false,8),(6,false,8),(7,false,8),(8,true,0)] (by kernel_rfl) (by kernel_rfl) ?_
 iterate 8 (refine ae rfl rfl (fun K hK=>?_);go_simp;refine hK _ ?_;clear hK K)
 refine ag rfl ?_
 refine bJ _ rfl _ _ 117 117 rfl 3 1 Tryz.underlying117 (fun w=>Tryz.sizeOf3 w) g2 _ _ _ rfl _ uy.out _ _ (n-i) _ (xs.drop (i*1)) rfl uw.out (by omega) HCS.out (by rw [vi.out];omega) uO.out ?_
 intro w5 h5
 have uA:=CM (h5.swap.drop)
 have H5:=CM h5
 clear h5 uy uw uO uA
 refine wpList_nil ?_
 refine And.intro ?_ ?_
 ·go_simp
 refine ah ?_
 go_wp2_with fail
 go_ret
 have hrow:=H5.out.row_own (n:=n+1) (cap:=cap2) (size:=1) (xs:=ys) (by omega) xC.out (by rw [cE _ _ _ (by rw [vi.out,List.length_drop,HXL.out];omega),vi.out];exact hcz) ?_ ?_
 ·exact⟨_,rfl,hrow.swap.drop⟩
 ·have o1:(i+1)=i*1+1:=by omega
  have o3:(n+1)*1=n*1+1:=by omega
  have hct':=vM.out
  rw [o3]at hct'
  have e:=go cur xs xc zs (i*1) 1 (n*1) hct' HXL.out (by omega) vx.out
  rw [vq.out,o3,o1]
  first|exact e|(simp only [Nat.mul_one]at e ⊢;exact e)
 ·intro u hu
  rw [vq.out]at hu
  rcases List.mem_append.1 hu with hu|hu
  ·rcases List.mem_append.1 hu with hu|hu
   ·exact uV.out u (List.mem_of_mem_take hu)
   ·exact hx1 u hu
  ·exact uV.out u (List.mem_of_mem_drop hu)
theorem iu {B w:World}{D:PH}{l:List HP}{v:Value}{n i:Nat}{xs xc:List Value}(hin:i≤n)(hxc:xc.length=1)(hx1:∀u∈xc,u.oneCell'=true)(bx:Nat)(hb:(n+1)*8≤140737488355328)
  (hs:Sat B D w (aF 3 1 v n xs::blk bx xc.toArray 3::l)) :
  Calls Tryz.prog 127 #[v,.int .i64 i,.slice (some ⟨bx,0,none⟩) 1 1] w fun e w'=>∃v',e = .returned v'∧Sat B D w' (aF 3 1 v' (n+1) (xs.take (i*1)++xc++xs.drop (i*1))::blk bx xc.toArray 3::l):=by
 have hxl:=(hs.own 0 rfl).1
 by_cases h:i=n
 ·subst h
  have:=kF hxc hx1 bx hb hs
  rw [List.take_of_length_le (by omega),List.drop_of_length_le (by omega),List.append_nil]
  exact this
 ·obtain⟨g,cap,rfl,hnc,hcm⟩:=(hs.own 0 rfl).form (by omega)
  by_cases hroom:n+1≤cap
  ·exact jM rfl (by omega) hroom hxc hx1 bx hs
  ·exact jR rfl (by omega) (by omega) hxc hx1 bx hb hs
end Go.Proofs.YtdobimafhbfkhaaGreat
