/- The library's Delete of slices as the tree calls it, at what stands at a key, and what follows. -/
import Derived.Test.YtdobimafhbfkhaaGreatOY7
import Derived.Test.YtdobimafhbfkhaaGreatOY4
import Derived.Test.YtdobimafhbfkhaaGreatOY3
set_option maxHeartbeats 64000000
namespace Go.Proofs.YtdobimafhbfkhaaGreat
open Go.ChangeShapes Go.WideShapes Go.ChangeAt Go.RowKit
set_option maxRecDepth 100000
set_option linter.unusedSimpArgs false
theorem nA : ∀u∈(Builtin.zeroCells (Value.slice none 0 0).cells 1).toList,u.oneCell'=true:=fZ qL 1
theorem nS (w:World):(zeroValue 26).run Tryz.prog w = .ok (.slice none 0 0) w:=Tryz.zeroValue26 w
theorem mF {B w:World}{D:PH}{l:List HP}{v:Value}{n i:Nat}{xs ys:List Value}(hys:ys=xs.take (i*1)++xs.drop ((i+1)*1))(hin:i≤n)(hs:Sat B D w (aD 26 1 v (n+1) xs::l)) :
  Calls Tryz.prog 120 #[v,.int .i64 i,.int .i64 (i+1)] w fun e w'=>∃v',e = .returned v'∧Sat B D w' (aD 26 1 v' n ys::l):=by
 obtain⟨i0,hi,hz0,hz1,hz2⟩:=info_parts lm;obtain⟨g,cap,rfl,hnc,hcm⟩:=(hs.own 0 rfl).form (by omega);have ho:=hs.own 0 rfl;have hxl:=ho.1;have hc1:=ho.2.1;have hcm':=hcm;unfold maxLen at hcm;have hcut:=(hs.own_cut (m:=i) (c:=cap) (by omega) (by omega) (by omega)).drew;have hrd1:∀o,(i+1<cap→o=(i+1))→Rd w.drew 1 (.slice (some ⟨g,o,none⟩) (n-i) (cap-(i+1))) (n-i) (xs.drop ((i+1)*1)):=fun o ho'=>by
  refine⟨by rw [Ga,hxl,←Nat.sub_mul];congr 1;omega,by unfold maxLen;omega,_,_,rfl,by omega,by unfold maxLen;omega,(fun h=>by cases h),?_⟩;by_cases hc:n-i=0
  ·exact .inl hc
  ·refine .inr ⟨g,_,rfl,fun j u hu=>?_⟩
   rw [ho' (by omega)];rw [List.getElem?_drop]at hu;have:=ho.cells _ u hu
   simpa using this
 have HC:=FH hcut;have wQ:=FH hrd1;have HI:=FH (And.intro hi (And.intro hz0 (And.intro hz1 hz2)));have xU:=FH hxl;have xG:=FH hc1;have yp:=FH hys;have xz:=FH (show ∀u∈xs.drop ((i+1)*1),u.oneCell'=true from fun u hu=>hc1 u (Gd hu));clear hs ho hxl hc1 hcut hrd1 hi hz0 hz1 hz2 hys;have hij:¬((i:Int)=(i:Int)+1):=by omega
 have htn:((i:Int)+1).toNat=i+1:=by omega
 have hb0:(0:Int)≤(i:Int)+1:=by omega
 have hb1:(i:Int)≤(i:Int)+1:=by omega
 have hb2:(i:Int)+1≤(n:Int)+1:=by omega
 have hb3:(n:Int)+1≤(cap:Int):=by omega
 have hb4:(i:Int)≤(cap:Int):=by omega
 have hb5:i≤cap:=by omega
 have hb7:¬(cap=n):=by omega
 go_enter Tryz.func120,Tryz.ntmps120;go_upto_region 5 with (fail)
 by_cases hci:cap=i+1
 ·have hrd:=wQ.out 0 (by omega)
  have HR:=FH hrd;clear hrd wQ;subst hci;obtain rfl:n=i:=by omega
  refine aH [rq 0 6,rq 1 6,rq 2 6,rq 3 6,rq 4 6,rq 5 6,(6,true,0),rq 7 999] ?_;iterate 6 (refine ae rfl rfl fun K hK=>?_;go_simp;apply hK;clear hK K)
  refine af rfl ?_;refine bX _ rfl _ _ 55 rfl 26 i0 1 Tryz.underlying55 HI.out.1 HI.out.2.2.1 g n _ _ rfl HC.out (.slice (some ⟨g,0,none⟩) 0 0) 0 _ rfl (by simpa using HR.out) xz.out (by omega) ?_;intro w3 h3;rw [Nat.add_zero]at h3 ⊢;obtain⟨cur,h4,_,_,hcz,hct,_,hcl⟩:=h3.own_row;have H4:=FH h4;have yO:=FH hct;clear h3 h4 hct hcl HC HR;refine wpList_nil ?_;apply And.intro
  ·go_simp
  refine ae rfl rfl fun K hK=>?_;go_simp;apply hK;clear hK K;refine ag ?_;go_wp2_with (show wpList _ _ _ (⟨none,.call _,_,_,_,_⟩::_) _ _;refine cU _ rfl _ 55 rfl 26 _ Tryz.underlying55 (fun w=>nS w) g _ 1 _ rfl cur H4.out (by omega) (by simp [size_zeroCells,Value.cells];omega) nA ?_;intro w5 h5;have H5:=FH h5;clear h5);go_ret;refine⟨_,rfl,H5.out.row_own (by omega) hcm' (by rw [cQ _ _ _ (by simp [size_zeroCells,Value.cells];omega)];exact hcz) ?_ ?_⟩
  ·unfold lay
   rw [FU,F9 (by rw [F0];omega),yp.out,←yO.out,List.take_take]
   congr 1
   omega
  ·intro u hu
   rw [yp.out]at hu;exact(F2.1 hu).elim (fun h=>xG.out u (Gf h)) (fun h=>xG.out u (Gd h))
 ·have hrd:=wQ.out (i+1) (fun _=>rfl)
  have HR:=FH hrd;clear hrd wQ;refine aH [rq 0 6,rq 1 6,rq 2 6,rq 3 6,rq 4 6,rq 5 6,(6,true,0),rq 7 999] ?_;iterate 6 (refine ae rfl rfl fun K hK=>?_;go_simp;apply hK;clear hK K)
  refine af rfl ?_;refine bX _ rfl _ _ 55 rfl 26 i0 1 Tryz.underlying55 HI.out.1 HI.out.2.2.1 g i _ _ rfl HC.out (.slice (some ⟨g,(i+1),none⟩) (n-i) (cap-(i+1))) (n-i) _ rfl HR.out xz.out (by omega) ?_;intro w3 h3;rw [show i+(n-i)=n by omega]at h3 ⊢;obtain⟨cur,h4,_,_,hcz,hct,_,hcl⟩:=h3.own_row;have H4:=FH h4;have yO:=FH hct;clear h3 h4 hct hcl HC HR;refine wpList_nil ?_;apply And.intro
  ·go_simp
  refine ae rfl rfl fun K hK=>?_;go_simp;apply hK;clear hK K;refine ag ?_;go_wp2_with (show wpList _ _ _ (⟨none,.call _,_,_,_,_⟩::_) _ _;refine cU _ rfl _ 55 rfl 26 _ Tryz.underlying55 (fun w=>nS w) g _ 1 _ rfl cur H4.out (by omega) (by simp [size_zeroCells,Value.cells];omega) nA ?_;intro w5 h5;have H5:=FH h5;clear h5);go_ret;refine⟨_,rfl,H5.out.row_own (by omega) hcm' (by rw [cQ _ _ _ (by simp [size_zeroCells,Value.cells];omega)];exact hcz) ?_ ?_⟩
  ·unfold lay
   rw [FU,F9 (by rw [F0];omega),yp.out,←yO.out,List.take_take]
   congr 1
   omega
  ·intro u hu
   rw [yp.out]at hu;exact(F2.1 hu).elim (fun h=>xG.out u (Gf h)) (fun h=>xG.out u (Gd h))
abbrev tT : TypeId:=119
abbrev tN : TypeId:=157
abbrev tV : TypeId:=24
abbrev tI : TypeId:=3
abbrev tW : TypeId:=26
theorem u6' : (Tryz.prog.info? tN).map (fun i=>(i.zero,i.size,i.bytes))=some (some (.agg #[.bool false,.slice none 0 0,.slice none 0 0,.slice none 0 0]),4,80):=by kernel_rfl
structure RowT where
 ro:Option Addr
 rn:Nat
 rc:Nat
deriving DecidableEq
abbrev VT := RowT
def RowT.none : RowT:=⟨Option.none,0,0⟩
abbrev RowT.v (v:RowT):Value:=.slice v.ro v.rn v.rc
def dS (v:VT):List Value:=[.slice v.ro v.rn v.rc]
theorem kV (v:VT):(dS v).length=1:=rfl
theorem vone (v:VT):∀u∈dS v,u.oneCell'=true:=by intro u hu;simp [dS]at hu;subst hu;rfl
def ncells (n:Nat):List Value:=[.int .i64 n]
theorem jE (n:Nat):(ncells n).length=1:=rfl
theorem vN (n:Nat):∀u∈ncells n,u.oneCell'=true:=by intro u hu;simp [ncells]at hu;subst hu;rfl
structure NodeM where
 leaf:Bool
 keys:List Val
 vals:List VT
 kids:List Nat
structure NodeV where
 kv:Value
 vv:Value
 dv:Value
abbrev NP := NodeV×NodeM
def aG (p:NP):List Value:=[.bool p.2.leaf,p.1.kv,p.1.vv,p.1.dv]
theorem fm (p:NP):(aG p).length=4:=rfl
abbrev dm (kv:Value)(ks:List Val):HP:=aD tV 3 kv ks.length (ks.flatMap Val.cells)
abbrev dl (vv:Value)(vs:List VT):HP:=aD tW 1 vv vs.length (vs.flatMap dS)
abbrev be (dv:Value)(ds:List Nat):HP:=aD tI 1 dv ds.length (ds.flatMap ncells)
def bV (p:NP):HP:=aY [dm p.1.kv p.2.keys,dl p.1.vv p.2.vals,be p.1.dv p.2.kids]
structure Num where
 root:Int
 many:Int
 depth:Int
def aM (nv fv:Value)(k:Num):Array Value:=#[nv,fv,.int .i64 k.root,.int .i64 k.many,.int .i64 k.depth]
theorem dE {w:World}{e:TypeId}{z g N c n:Nat}{xs:List Value}(h:Own w e z (.slice (some ⟨g,0,none⟩) N c) n xs):N=n:=by
 obtain⟨_,_,hv,_⟩:=h.rd.2.2;cases hv
 rfl
def TreeS (B:World)(D:PH)(w:World)(t:Nat)(nv fv:Value)(ns:List NP)(fr:List Nat)(k:Num)(l:List HP):Prop :=
 Sat B D w (blk t (aM nv fv k) tT::aD tN 4 nv ns.length (ns.flatMap aG)::be fv fr::aY (ns.map bV)::l)
section
variable {B w w' : World} {D : PH} {t : Nat} {nv fv : Value} {ns : List NP} {fr : List Nat} {k : Num} {l : List HP}
theorem TreeS.drew (h:TreeS B D w t nv fv ns fr k l):TreeS B D w.drew t nv fv ns fr k l:=Sat.drew h
theorem TreeS.kept (h:TreeS B D w t nv fv ns fr k l)(hk:Kept (fun _=>False) w w'):TreeS B D w' t nv fv ns fr k l:=Sat.kept h hk
theorem TreeS.tcells (h:TreeS B D w t nv fv ns fr k l):w.cell? ⟨t,0,none⟩=some nv∧w.cell? ⟨t,1,none⟩=some fv∧w.cell? ⟨t,2,none⟩=some (.int .i64 k.root)∧w.cell? ⟨t,3,none⟩=some (.int .i64 k.many)∧w.cell? ⟨t,4,none⟩=some (.int .i64 k.depth)∧∀j,w.frozen? ⟨t,j,none⟩=false :=
 pC (Sat.blk h 0 rfl)
theorem TreeS.nv_some (h:TreeS B D w t nv fv ns fr k l)(hp:0<ns.length):∃g c,nv = .slice (some ⟨g,0,none⟩) ns.length c∧ns.length≤c∧c≤maxLen:=(Sat.own h 1 rfl).form hp
theorem TreeS.nv_any (h:TreeS B D w t nv fv ns fr k l):∃o c,nv = .slice o ns.length c∧ns.length≤maxLen:=by
 obtain⟨_,h2,o,c,h3,_⟩:=(Sat.own h 1 rfl).rd;exact⟨o,c,h3,h2⟩
theorem TreeS.fv_any (h:TreeS B D w t nv fv ns fr k l):∃o c,fv = .slice o fr.length c∧fr.length≤maxLen:=by
 obtain⟨_,h2,o,c,h3,_⟩:=(Sat.own h 2 rfl).rd;exact⟨o,c,h3,h2⟩
theorem TreeS.node_cells {N g c:Nat}(h:TreeS B D w t (.slice (some ⟨g,0,none⟩) N c) fv ns fr k l){i:Nat}{p:NP}(hi:ns[i]?=some p) :
  w.cell? ⟨g,i*4,none⟩=some (.bool p.2.leaf)∧w.cell? ⟨g,i*4+1,none⟩=some p.1.kv∧w.cell? ⟨g,i*4+2,none⟩=some p.1.vv∧w.cell? ⟨g,i*4+3,none⟩=some p.1.dv∧∀j,w.frozen? ⟨g,j,none⟩=false:=by
 obtain rfl:=dE (Sat.own h 1 rfl);have ho:=Sat.own h 1 rfl;have f:=fun j u hj=>ho.cells _ _ (bB fm ns i p hi j u hj);obtain⟨z,_,hr⟩:=ho.row;exact⟨f 0 _ rfl,f 1 _ rfl,f 2 _ rfl,f 3 _ rfl,hr.frozen⟩
theorem cA {N g c:Nat}(ho:Own w tN 4 (.slice (some ⟨g,0,none⟩) N c) ns.length (ns.flatMap aG)){i:Nat}{p:NP}(hi:ns[i]?=some p) :
  w.cell? ⟨g,i*4,none⟩=some (.bool p.2.leaf)∧w.cell? ⟨g,i*4+1,none⟩=some p.1.kv∧w.cell? ⟨g,i*4+2,none⟩=some p.1.vv∧w.cell? ⟨g,i*4+3,none⟩=some p.1.dv∧∀j,w.frozen? ⟨g,j,none⟩=false:=by
 obtain rfl:=dE ho;have f:=fun j u hj=>ho.cells _ _ (bB fm ns i p hi j u hj);obtain⟨z,_,hr⟩:=ho.row;exact⟨f 0 _ rfl,f 1 _ rfl,f 2 _ rfl,f 3 _ rfl,hr.frozen⟩
theorem TreeS.focus (h:TreeS B D w t nv fv ns fr k l){i:Nat}{p:NP}(hi:ns[i]?=some p) :
  Sat B D w (dm p.1.kv p.2.keys::dl p.1.vv p.2.vals::be p.1.dv p.2.kids::blk t (aM nv fv k) tT::aD tN 4 nv ns.length (ns.flatMap aG)::be fv fr::aY ((ns.map bV).eraseIdx i)::l):=by
 have h1:Sat B D w (ns.map bV++(blk t (aM nv fv k) tT::aD tN 4 nv ns.length (ns.flatMap aG)::be fv fr::l)):=by
  refine Sat.ungroup (Sat.perm h ?_);exact(Ge (l₁:=[blk t (aM nv fv k) tT,aD tN 4 nv ns.length (ns.flatMap aG),be fv fr]) (a:=aY (ns.map bV)) (l₂:=l))
 have hmi:(ns.map bV)[i]?=some (bV p):=by rw [Gg,hi];rfl
 have h2:=h1.perm ((gh _ i _ hmi).append_right _);have h3:=h2.ungroup;have h4:Sat B D w ([dm p.1.kv p.2.keys,dl p.1.vv p.2.vals,be p.1.dv p.2.kids]++((ns.map bV).eraseIdx i++(blk t (aM nv fv k) tT::aD tN 4 nv ns.length (ns.flatMap aG)::be fv fr::l))):=h3;have h5:=(h4.perm (List.perm_append_comm_assoc _ _ _)).togroup;exact h5.perm (Ge (l₁:=[dm p.1.kv p.2.keys,dl p.1.vv p.2.vals,be p.1.dv p.2.kids,blk t (aM nv fv k) tT,aD tN 4 nv ns.length (ns.flatMap aG),be fv fr]) (a:=aY ((ns.map bV).eraseIdx i)) (l₂:=l)).symm
theorem TreeS.unfocus {i:Nat}{p p':NP}(hi:ns[i]?=some p)
  (h:Sat B D w (dm p'.1.kv p'.2.keys::dl p'.1.vv p'.2.vals::be p'.1.dv p'.2.kids::blk t (aM nv fv k) tT::aD tN 4 nv ns.length ((ns.set i p').flatMap aG)::be fv fr::aY ((ns.map bV).eraseIdx i)::l)) :
  TreeS B D w t nv fv (ns.set i p') fr k l:=by
 have h5:=(h.perm (Ge (l₁:=[dm p'.1.kv p'.2.keys,dl p'.1.vv p'.2.vals,be p'.1.dv p'.2.kids,blk t (aM nv fv k) tT,aD tN 4 nv ns.length ((ns.set i p').flatMap aG),be fv fr]) (a:=aY ((ns.map bV).eraseIdx i)) (l₂:=l))).ungroup;have h4:=h5.perm (List.perm_append_comm_assoc (l₂:=[dm p'.1.kv p'.2.keys,dl p'.1.vv p'.2.vals,be p'.1.dv p'.2.kids]) ((ns.map bV).eraseIdx i) (blk t (aM nv fv k) tT::aD tN 4 nv ns.length ((ns.set i p').flatMap aG)::be fv fr::l));have h3:Sat B D w (bV p'::((ns.map bV).eraseIdx i++(blk t (aM nv fv k) tT::aD tN 4 nv ns.length ((ns.set i p').flatMap aG)::be fv fr::l))):=h4.togroup;have hmi:(ns.map bV)[i]?=some (bV p):=by rw [Gg,hi];rfl
 have h2:Sat B D w ((ns.set i p').map bV++(blk t (aM nv fv k) tT::aD tN 4 nv ns.length ((ns.set i p').flatMap aG)::be fv fr::l)):=by
  rw [List.map_set];exact h3.perm ((iJ (bV p') _ i _ hmi).symm.append_right _)
 have h1:=h2.togroup.perm (Ge (l₁:=[blk t (aM nv fv k) tT,aD tN 4 nv ns.length ((ns.set i p').flatMap aG),be fv fr]) (a:=aY ((ns.set i p').map bV)) (l₂:=l)).symm;unfold TreeS;rw [FV];exact h1
theorem TreeS.keys_rd (h:TreeS B D w t nv fv ns fr k l){i:Nat}{p:NP}(hi:ns[i]?=some p):Rd w 3 p.1.kv p.2.keys.length (p.2.keys.flatMap Val.cells):=(Sat.own (h.focus hi) 0 rfl).rd
theorem TreeS.vals_rd (h:TreeS B D w t nv fv ns fr k l){i:Nat}{p:NP}(hi:ns[i]?=some p):Rd w 1 p.1.vv p.2.vals.length (p.2.vals.flatMap dS):=(Sat.own (h.focus hi) 1 rfl).rd
theorem TreeS.kids_rd (h:TreeS B D w t nv fv ns fr k l){i:Nat}{p:NP}(hi:ns[i]?=some p):Rd w 1 p.1.dv p.2.kids.length (p.2.kids.flatMap ncells):=(Sat.own (h.focus hi) 2 rfl).rd
theorem dY (j:Nat)(p p':NP)(u:Value)(hj:j<4)(hp:(aG p).set j u=aG p'):∀(ns:List NP) (i:Nat),ns[i]?=some p→(ns.flatMap aG).set (i*4+j) u=(ns.set i p').flatMap aG
 | [],i,h=>by simp at h
 | x::ns,0,h=>by
  simp only [List.getElem?_cons_zero,Option.some.injEq]at h;subst h;rw [Nat.zero_mul,Nat.zero_add,F1,FK,F1,List.set_append_left _ _ (by rw [fm];exact hj),hp]
 | x::ns,i+1,h=>by
  rw [F1,FJ,F1,List.set_append_right _ _ (by rw [fm];omega),fm,show(i+1)*4+j-4=i*4+j by omega,dY j p p' u hj hp ns i (by simpa using h)]
theorem TreeS.set_keys {N g c:Nat}{i:Nat}{p:NP}(hi:ns[i]?=some p){kv:Value}{ks:List Val}
  (h:Sat B D w (dm kv ks::dl p.1.vv p.2.vals::be p.1.dv p.2.kids::blk t (aM (.slice (some ⟨g,0,none⟩) N c) fv k) tT::aD tN 4 (.slice (some ⟨g,0,none⟩) N c) ns.length (ns.flatMap aG)::be fv fr::aY ((ns.map bV).eraseIdx i)::l)) :
  TreeS B D (w.setCell ⟨g,i*4+1,none⟩ kv) t (.slice (some ⟨g,0,none⟩) N c) fv (ns.set i (⟨kv,p.1.vv,p.1.dv⟩,{ p.2 with keys:=ks })) fr k l:=by
 obtain rfl:=dE (Sat.own h 4 rfl);have ho:=h.own_one;have h1:=h.modify 4 rfl (fun _ hh=>hh.own_set (i*4+1) kv ho);simp only [FJ,FK]at h1;rw [dY 1 p (⟨kv,p.1.vv,p.1.dv⟩,{ p.2 with keys:=ks }) kv (by omega) rfl ns i hi]at h1;exact TreeS.unfocus hi h1
theorem TreeS.set_vals {N g c:Nat}{i:Nat}{p:NP}(hi:ns[i]?=some p){vv:Value}{vs:List VT}
  (h:Sat B D w (dl vv vs::dm p.1.kv p.2.keys::be p.1.dv p.2.kids::blk t (aM (.slice (some ⟨g,0,none⟩) N c) fv k) tT::aD tN 4 (.slice (some ⟨g,0,none⟩) N c) ns.length (ns.flatMap aG)::be fv fr::aY ((ns.map bV).eraseIdx i)::l)) :
  TreeS B D (w.setCell ⟨g,i*4+2,none⟩ vv) t (.slice (some ⟨g,0,none⟩) N c) fv (ns.set i (⟨p.1.kv,vv,p.1.dv⟩,{ p.2 with vals:=vs })) fr k l:=by
 obtain rfl:=dE (Sat.own h 4 rfl);have ho:=h.own_one;have h1:=h.swap.modify 4 rfl (fun _ hh=>hh.own_set (i*4+2) vv ho);simp only [FJ,FK]at h1;rw [dY 2 p (⟨p.1.kv,vv,p.1.dv⟩,{ p.2 with vals:=vs }) vv (by omega) rfl ns i hi]at h1;exact TreeS.unfocus hi h1
theorem TreeS.set_kids {N g c:Nat}{i:Nat}{p:NP}(hi:ns[i]?=some p){dv:Value}{ds:List Nat}
  (h:Sat B D w (be dv ds::dm p.1.kv p.2.keys::dl p.1.vv p.2.vals::blk t (aM (.slice (some ⟨g,0,none⟩) N c) fv k) tT::aD tN 4 (.slice (some ⟨g,0,none⟩) N c) ns.length (ns.flatMap aG)::be fv fr::aY ((ns.map bV).eraseIdx i)::l)) :
  TreeS B D (w.setCell ⟨g,i*4+3,none⟩ dv) t (.slice (some ⟨g,0,none⟩) N c) fv (ns.set i (⟨p.1.kv,p.1.vv,dv⟩,{ p.2 with kids:=ds })) fr k l:=by
 obtain rfl:=dE (Sat.own h 4 rfl);have ho:=h.own_one;have h1:=h.rot.modify 4 rfl (fun _ hh=>hh.own_set (i*4+3) dv ho);simp only [FJ,FK]at h1;rw [dY 3 p (⟨p.1.kv,p.1.vv,dv⟩,{ p.2 with kids:=ds }) dv (by omega) rfl ns i hi]at h1;exact TreeS.unfocus hi h1
def ez (leaf:Bool):NP:=(⟨.slice none 0 0,.slice none 0 0,.slice none 0 0⟩,⟨leaf,[],[],[]⟩)
theorem TreeS.reset {N g c:Nat}(h:TreeS B D w t (.slice (some ⟨g,0,none⟩) N c) fv ns fr k l){i:Nat}{p:NP}(hi:ns[i]?=some p)(leaf:Bool) :
  TreeS B D ((((w.setCell ⟨g,i*4,none⟩ (.bool leaf)).setCell ⟨g,i*4+1,none⟩ (.slice none 0 0)).setCell ⟨g,i*4+2,none⟩ (.slice none 0 0)).setCell ⟨g,i*4+3,none⟩ (.slice none 0 0)) t (.slice (some ⟨g,0,none⟩) N c) fv
   (ns.set i (ez leaf)) fr k l:=by
 obtain rfl:=dE (Sat.own h 1 rfl);have h1:=((h.focus hi).drop.drop.drop).modify 1 rfl (fun _ hh=>(((hh.own_set (i*4) (.bool leaf) rfl).own_set (i*4+1) (.slice none 0 0) rfl).own_set (i*4+2) (.slice none 0 0) rfl).own_set (i*4+3) (.slice none 0 0) rfl);simp only [FJ,FK]at h1;have e:((((ns.flatMap aG).set (i*4) (.bool leaf)).set (i*4+1) (.slice none 0 0)).set (i*4+2) (.slice none 0 0)).set (i*4+3) (.slice none 0 0)=(ns.set i (ez leaf)).flatMap aG:=by
  have hlt:=(FO.1 hi).1;obtain⟨⟨kv,vv,dv⟩,⟨lf,ks,vs,ds⟩⟩:=p;have e0:=dY 0 (⟨kv,vv,dv⟩,⟨lf,ks,vs,ds⟩) (⟨kv,vv,dv⟩,⟨leaf,[],[],[]⟩) (.bool leaf) (by omega) rfl ns i hi;rw [Nat.add_zero]at e0;have g:∀q:NP,(ns.set i q)[i]?=some q:=fun q=>FX hlt;rw [e0,dY 1 (⟨kv,vv,dv⟩,⟨leaf,[],[],[]⟩) (⟨.slice none 0 0,vv,dv⟩,⟨leaf,[],[],[]⟩) _ (by omega) rfl _ i (g _),List.set_set,
   dY 2 (⟨.slice none 0 0,vv,dv⟩,⟨leaf,[],[],[]⟩) (⟨.slice none 0 0,.slice none 0 0,dv⟩,⟨leaf,[],[],[]⟩) _ (by omega) rfl _ i (g _),List.set_set,
   dY 3 (⟨.slice none 0 0,.slice none 0 0,dv⟩,⟨leaf,[],[],[]⟩) (ez leaf) (.slice none 0 0) (by omega) rfl _ i (g _),List.set_set]
 rw [e]at h1;exact TreeS.unfocus (p':=(ez leaf)) hi (((h1.own_nil tI 1).own_nil tW 1).own_nil tV 3)
theorem TreeS.push {g c:Nat}(leaf:Bool)
  (h1:Sat B D w' (aD tN 4 (.slice (some ⟨g,0,none⟩) (ns.length+1) c) (ns.length+1) (ns.flatMap aG ++ [.bool leaf,.slice none 0 0,.slice none 0 0,.slice none 0 0])::blk t (aM nv fv k) tT::be fv fr::aY (ns.map bV)::l)) :
  TreeS B D (w'.setCell ⟨t,0,none⟩ (.slice (some ⟨g,0,none⟩) (ns.length+1) c)) t (.slice (some ⟨g,0,none⟩) (ns.length+1) c) fv (ns ++ [ez leaf]) fr k l:=by
 have h2:=(h1.swap.set 0 (.slice (some ⟨g,0,none⟩) (ns.length+1) c));have h3:=((h2.own_nil tI 1).own_nil tW 1).own_nil tV 3;generalize hc:[Value.bool leaf,.slice none 0 0,.slice none 0 0,.slice none 0 0]=cs at *;have h4:Sat B D (w'.setCell ⟨t,0,none⟩ (.slice (some ⟨g,0,none⟩) (ns.length+1) c)) (bV (ez leaf)::blk t (aM (.slice (some ⟨g,0,none⟩) (ns.length+1) c) fv k) tT::aD tN 4 (.slice (some ⟨g,0,none⟩) (ns.length+1) c) (ns.length+1) (ns.flatMap aG++cs)::be fv fr::aY (ns.map bV)::l) :=
  Sat.togroup (L:=[dm (.slice none 0 0) [],dl (.slice none 0 0) [],be (.slice none 0 0) []]) h3
 have h5:=(h4.perm (Ge (l₁:=[bV (ez leaf),blk t (aM (.slice (some ⟨g,0,none⟩) (ns.length+1) c) fv k) tT,aD tN 4 (.slice (some ⟨g,0,none⟩) (ns.length+1) c) (ns.length+1) (ns.flatMap aG++cs),be fv fr]) (a:=aY (ns.map bV)) (l₂:=l))).ungroup;have h6:Sat B D (w'.setCell ⟨t,0,none⟩ (.slice (some ⟨g,0,none⟩) (ns.length+1) c)) ((ns ++ [ez leaf]).map bV++(blk t (aM (.slice (some ⟨g,0,none⟩) (ns.length+1) c) fv k) tT::aD tN 4 (.slice (some ⟨g,0,none⟩) (ns.length+1) c) (ns.length+1) (ns.flatMap aG++cs)::be fv fr::l)):=by
  rw [List.map_append,FU];exact h5
 have h7:=h6.togroup.perm (Ge (l₁:=[blk t (aM (.slice (some ⟨g,0,none⟩) (ns.length+1) c) fv k) tT,aD tN 4 (.slice (some ⟨g,0,none⟩) (ns.length+1) c) (ns.length+1) (ns.flatMap aG++cs),be fv fr]) (a:=aY ((ns ++ [ez leaf]).map bV)) (l₂:=l)).symm;unfold TreeS;rw [FR,FT];subst hc;exact h7
theorem TreeS.set_free {fv':Value}{fr':List Nat}(h:TreeS B D w t nv fv ns fr k l)(f:∀l':List HP,Sat B D w (be fv fr::l')→Sat B D w' (be fv' fr'::l')) :
  TreeS B D (w'.setCell ⟨t,1,none⟩ fv') t nv fv' ns fr' k l:=by
 have h1:=(Sat.modify h 2 rfl f);simp only [FJ,FK]at h1;exact h1.set 1 fv'
theorem TreeS.set_root (h:TreeS B D w t nv fv ns fr k l)(r:Int):TreeS B D (w.setCell ⟨t,2,none⟩ (.int .i64 r)) t nv fv ns fr { k with root:=r } l:=Sat.set h 2 _
theorem TreeS.set_many (h:TreeS B D w t nv fv ns fr k l)(r:Int):TreeS B D (w.setCell ⟨t,3,none⟩ (.int .i64 r)) t nv fv ns fr { k with many:=r } l:=Sat.set h 3 _
theorem TreeS.set_depth (h:TreeS B D w t nv fv ns fr k l)(r:Int):TreeS B D (w.setCell ⟨t,4,none⟩ (.int .i64 r)) t nv fv ns fr { k with depth:=r } l:=Sat.set h 4 _
theorem TreeS.hide (h:TreeS B D w t nv fv ns fr k l):∃W,W=w∧TreeS B D W t nv fv ns fr k l:=⟨w,rfl,h⟩
theorem Sat.bring {X:HP}{L:List HP}(hs:Sat B D w (X::L))(i:Nat){A:HP}(h:L[i]?=some A):Sat B D w (X::A::L.eraseIdx i):=hs.perm ((gh L i A h).cons X)
theorem TreeS.put_keys {N g c:Nat}{i:Nat}{p:NP}(hi:ns[i]?=some p){kv:Value}{ks:List Val}
  (h:Sat B D w (dm kv ks::blk t (aM (.slice (some ⟨g,0,none⟩) N c) fv k) tT::aD tN 4 (.slice (some ⟨g,0,none⟩) N c) ns.length (ns.flatMap aG)::be fv fr::aY (ns.map bV)::l)) :
  TreeS B D (w.setCell ⟨g,i*4+1,none⟩ kv) t (.slice (some ⟨g,0,none⟩) N c) fv (ns.set i (⟨kv,p.1.vv,p.1.dv⟩,{ p.2 with keys:=ks })) fr k l:=by
 obtain rfl:=dE (Sat.own h 2 rfl);have h1:TreeS B D w t (.slice (some ⟨g,0,none⟩) ns.length c) fv ns fr k (dm kv ks::l):=h.perm (Ge (l₁:=[blk t (aM (.slice (some ⟨g,0,none⟩) ns.length c) fv k) tT,aD tN 4 (.slice (some ⟨g,0,none⟩) ns.length c) ns.length (ns.flatMap aG),be fv fr,aY (ns.map bV)]) (a:=dm kv ks) (l₂:=l)).symm;have h2:=(h1.focus hi).drop.front 6 rfl;simp only [List.eraseIdx_cons_succ,List.eraseIdx_cons_zero]at h2;exact TreeS.set_keys hi h2
theorem TreeS.put_vals {N g c:Nat}{i:Nat}{p:NP}(hi:ns[i]?=some p){vv:Value}{vs:List VT}
  (h:Sat B D w (dl vv vs::blk t (aM (.slice (some ⟨g,0,none⟩) N c) fv k) tT::aD tN 4 (.slice (some ⟨g,0,none⟩) N c) ns.length (ns.flatMap aG)::be fv fr::aY (ns.map bV)::l)) :
  TreeS B D (w.setCell ⟨g,i*4+2,none⟩ vv) t (.slice (some ⟨g,0,none⟩) N c) fv (ns.set i (⟨p.1.kv,vv,p.1.dv⟩,{ p.2 with vals:=vs })) fr k l:=by
 obtain rfl:=dE (Sat.own h 2 rfl);have h1:TreeS B D w t (.slice (some ⟨g,0,none⟩) ns.length c) fv ns fr k (dl vv vs::l):=h.perm (Ge (l₁:=[blk t (aM (.slice (some ⟨g,0,none⟩) ns.length c) fv k) tT,aD tN 4 (.slice (some ⟨g,0,none⟩) ns.length c) ns.length (ns.flatMap aG),be fv fr,aY (ns.map bV)]) (a:=dl vv vs) (l₂:=l)).symm;have h2:=((h1.focus hi).swap.drop).front 6 rfl;simp only [List.eraseIdx_cons_succ,List.eraseIdx_cons_zero]at h2;exact TreeS.set_vals hi h2
theorem TreeS.put_kids {N g c:Nat}{i:Nat}{p:NP}(hi:ns[i]?=some p){dv:Value}{ds:List Nat}
  (h:Sat B D w (be dv ds::blk t (aM (.slice (some ⟨g,0,none⟩) N c) fv k) tT::aD tN 4 (.slice (some ⟨g,0,none⟩) N c) ns.length (ns.flatMap aG)::be fv fr::aY (ns.map bV)::l)) :
  TreeS B D (w.setCell ⟨g,i*4+3,none⟩ dv) t (.slice (some ⟨g,0,none⟩) N c) fv (ns.set i (⟨p.1.kv,p.1.vv,dv⟩,{ p.2 with kids:=ds })) fr k l:=by
 obtain rfl:=dE (Sat.own h 2 rfl);have h1:TreeS B D w t (.slice (some ⟨g,0,none⟩) ns.length c) fv ns fr k (be dv ds::l):=h.perm (Ge (l₁:=[blk t (aM (.slice (some ⟨g,0,none⟩) ns.length c) fv k) tT,aD tN 4 (.slice (some ⟨g,0,none⟩) ns.length c) ns.length (ns.flatMap aG),be fv fr,aY (ns.map bV)]) (a:=be dv ds) (l₂:=l)).symm;have h2:=(h1.focus hi).front 7 rfl;have h3:=h2.front 3 rfl;simp only [List.eraseIdx_cons_succ,List.eraseIdx_cons_zero]at h3;have h4:=h3.drop;exact TreeS.set_kids hi h4
theorem oL {e:TypeId}{size g n c m:Nat}{α:Type}{f:α→List Value}(hf:∀x,(f x).length=size){xs:List α}(hs:Sat B D w (aD e size (.slice (some ⟨g,0,none⟩) n c) n (xs.flatMap f)::l))(hn:n=xs.length)(hm:m≤n)(hc:n≤c) :
  Sat B D w (aD e size (.slice (some ⟨g,0,none⟩) m m) (xs.take m).length ((xs.take m).flatMap f)::l):=by
 have h:=hs.own_cut (m:=m) (c:=m) hm (Gn _) (by omega);rw [fw hf]at h;rw [F0,Nat.min_eq_left (by omega)];exact h
theorem TreeS.cut_keys {N g c gk nk ck m:Nat}{i:Nat}{p:NP}(h:TreeS B D w t (.slice (some ⟨g,0,none⟩) N c) fv ns fr k l)(hi:ns[i]?=some p)(hk:p.1.kv = .slice (some ⟨gk,0,none⟩) nk ck)(hm:m≤p.2.keys.length) :
  TreeS B D (w.setCell ⟨g,i*4+1,none⟩ (.slice (some ⟨gk,0,none⟩) m m)) t (.slice (some ⟨g,0,none⟩) N c) fv (ns.set i (⟨.slice (some ⟨gk,0,none⟩) m m,p.1.vv,p.1.dv⟩,{ p.2 with keys:=p.2.keys.take m })) fr k l:=by
 obtain rfl:=dE (Sat.own h 1 rfl);have h1:=h.focus hi;rw [hk]at h1;obtain⟨_,_,hv,hc,_⟩:=(h1.own 0 rfl).rd.2.2;cases hv;exact TreeS.set_keys hi (oL Val.len h1 rfl hm hc)
theorem TreeS.cut_vals {N g c gk nk ck m:Nat}{i:Nat}{p:NP}(h:TreeS B D w t (.slice (some ⟨g,0,none⟩) N c) fv ns fr k l)(hi:ns[i]?=some p)(hk:p.1.vv = .slice (some ⟨gk,0,none⟩) nk ck)(hm:m≤p.2.vals.length) :
  TreeS B D (w.setCell ⟨g,i*4+2,none⟩ (.slice (some ⟨gk,0,none⟩) m m)) t (.slice (some ⟨g,0,none⟩) N c) fv (ns.set i (⟨p.1.kv,.slice (some ⟨gk,0,none⟩) m m,p.1.dv⟩,{ p.2 with vals:=p.2.vals.take m })) fr k l:=by
 obtain rfl:=dE (Sat.own h 1 rfl);have h1:=(h.focus hi).swap;rw [hk]at h1;obtain⟨_,_,hv,hc,_⟩:=(h1.own 0 rfl).rd.2.2;cases hv;exact TreeS.set_vals hi (oL kV h1 rfl hm hc)
theorem TreeS.cut_kids {N g c gk nk ck m:Nat}{i:Nat}{p:NP}(h:TreeS B D w t (.slice (some ⟨g,0,none⟩) N c) fv ns fr k l)(hi:ns[i]?=some p)(hk:p.1.dv = .slice (some ⟨gk,0,none⟩) nk ck)(hm:m≤p.2.kids.length) :
  TreeS B D (w.setCell ⟨g,i*4+3,none⟩ (.slice (some ⟨gk,0,none⟩) m m)) t (.slice (some ⟨g,0,none⟩) N c) fv (ns.set i (⟨p.1.kv,p.1.vv,.slice (some ⟨gk,0,none⟩) m m⟩,{ p.2 with kids:=p.2.kids.take m })) fr k l:=by
 obtain rfl:=dE (Sat.own h 1 rfl);have h1:=(h.focus hi).front 2 rfl;simp only [List.eraseIdx_cons_succ,List.eraseIdx_cons_zero]at h1;rw [hk]at h1;obtain⟨_,_,hv,hc,_⟩:=(h1.own 0 rfl).rd.2.2;cases hv;exact TreeS.set_kids hi (oL jE h1 rfl hm hc)
def aT {α:Type}(l:List α)(i:Nat)(x:α):List α:=l.take i++x::l.drop i
theorem bQ {α:Type}(l:List α)(i:Nat)(x:α):(aT l i x).length=l.length+1:=by simp [aT];omega
theorem dq {α:Type}{f:α→List Value}{size:Nat}(hf:∀x,(f x).length=size)(l:List α)(i:Nat)(x:α):(l.flatMap f).take (i*size)++f x++(l.flatMap f).drop (i*size)=(aT l i x).flatMap f:=by
 rw [fw hf,gr hf];simp [aT]
theorem TreeS.alloc (h:TreeS B D w t nv fv ns fr k l)(cs:Array Value)(ty:TypeId):TreeS B D (w.alloc (.cells cs ty)) t nv fv ns fr k (Proofs.YtdobimafhbfkhaaGreat.blk w.heap.size cs ty::l) :=
 (Sat.alloc h cs ty).perm (Ge (l₁:=[Proofs.YtdobimafhbfkhaaGreat.blk t (aM nv fv k) tT,aD tN 4 nv ns.length (ns.flatMap aG),be fv fr,aY (ns.map bV)]) (a:=Proofs.YtdobimafhbfkhaaGreat.blk w.heap.size cs ty) (l₂:=l)).symm
theorem TreeS.drop {A:HP}(h:TreeS B D w t nv fv ns fr k (A::l)):TreeS B D w t nv fv ns fr k l :=
 (Sat.perm h (Ge (l₁:=[blk t (aM nv fv k) tT,aD tN 4 nv ns.length (ns.flatMap aG),be fv fr,aY (ns.map bV)]) (a:=A) (l₂:=l))).drop
theorem TreeS.for_keys {A:HP}(h:TreeS B D w t nv fv ns fr k (A::l)){i:Nat}{p:NP}(hi:ns[i]?=some p) :
  Sat B D w (dm p.1.kv p.2.keys::A::dl p.1.vv p.2.vals::be p.1.dv p.2.kids::blk t (aM nv fv k) tT::aD tN 4 nv ns.length (ns.flatMap aG)::be fv fr::aY ((ns.map bV).eraseIdx i)::l):=by
 have h1:=(h.focus hi).bring 6 rfl;simp only [List.eraseIdx_cons_succ,List.eraseIdx_cons_zero]at h1;exact h1
theorem TreeS.for_vals {A:HP}(h:TreeS B D w t nv fv ns fr k (A::l)){i:Nat}{p:NP}(hi:ns[i]?=some p) :
  Sat B D w (dl p.1.vv p.2.vals::A::dm p.1.kv p.2.keys::be p.1.dv p.2.kids::blk t (aM nv fv k) tT::aD tN 4 nv ns.length (ns.flatMap aG)::be fv fr::aY ((ns.map bV).eraseIdx i)::l):=by
 have h1:=(h.focus hi).swap.bring 6 rfl;simp only [List.eraseIdx_cons_succ,List.eraseIdx_cons_zero]at h1;exact h1
theorem TreeS.for_kids {A:HP}(h:TreeS B D w t nv fv ns fr k (A::l)){i:Nat}{p:NP}(hi:ns[i]?=some p) :
  Sat B D w (be p.1.dv p.2.kids::A::dm p.1.kv p.2.keys::dl p.1.vv p.2.vals::blk t (aM nv fv k) tT::aD tN 4 nv ns.length (ns.flatMap aG)::be fv fr::aY ((ns.map bV).eraseIdx i)::l):=by
 have h1:=(h.focus hi).front 2 rfl;simp only [List.eraseIdx_cons_succ,List.eraseIdx_cons_zero]at h1;have h2:=h1.bring 6 rfl;simp only [List.eraseIdx_cons_succ,List.eraseIdx_cons_zero]at h2;exact h2
theorem lG {size:Nat}{g n c m off:Nat}{α:Type}{f:α→List Value}(hf:∀x,(f x).length=size){xs:List α}(h:Rd w size (.slice (some ⟨g,0,none⟩) n c) xs.length (xs.flatMap f))(hm:m≤n)(hoff:m<c→off=m*size) :
  Rd w size (.slice (some ⟨g,off,none⟩) (n-m) (c-m)) (xs.drop m).length ((xs.drop m).flatMap f):=by
 obtain⟨h1,h2,_,_,hv,h3,h4,_,h5⟩:=h;cases hv;refine⟨cH hf _,by rw [Ga];omega,_,_,by rw [Ga],by rw [Ga];omega,by omega,(fun h=>by cases h),?_⟩;by_cases hz:(xs.drop m).length=0
 ·exact .inl hz
 ·rw [Ga]at hz
  refine .inr ⟨g,off,rfl,fun j u hu=>?_⟩;rcases h5 with h5|⟨_,_,hg,hc⟩
  ·omega
  ·cases hg
   rw [hoff (by omega)];have:=hc (m*size+j) u (by rw [←List.getElem?_drop,gr hf];exact hu);rw [Nat.zero_add]at this;exact this
end
end Go.Proofs.YtdobimafhbfkhaaGreat
namespace Go.Proofs.YtdobimafhbfkhaaGreat
end Go.Proofs.YtdobimafhbfkhaaGreat
namespace Go.Proofs.YtdobimafhbfkhaaGreat
open Go.ChangeShapes Go.WideShapes Go.ChangeAt Go.RowKit
set_option maxRecDepth 100000
set_option linter.unusedSimpArgs false
abbrev bN : TypeId:=66
abbrev tTabs : TypeId:=22
def dt (b:Bool):List Value:=[.bool b]
theorem blen (b:Bool):(dt b).length=1:=rfl
abbrev fH (w:World)(v:Value)(c:List Bool):Prop:=Rd w 1 v c.length (c.flatMap dt)
def cj (c:List Bool):Bool:=decide (1≤c.length)&&decide (c.length≤4)
def chk (c:List Bool):Int:=if cj c then 0 else 1
def dX (c:List Bool)(r:List Val)(n:Nat):Bool:=((r.zip c).take n).all fun p=>decide (p.1.t=p.2)&&am p.1
def aX (c:List Bool)(r:List Val):Bool:=cj c&&decide (r.length=c.length)&&dX c r r.length
theorem dZ {w:World}{g o n c i:Nat}{x:Bool}{cs:List Bool}(h:Rd w 1 (.slice (some ⟨g,o,none⟩) n c) n (cs.flatMap dt))(hi:cs[i]?=some x):w.cell? ⟨g,o+i,none⟩=some (.bool x):=by
 have hlt:=(FO.1 hi).1;rcases h.2.2 with ⟨_,_,hv,_,_,_,hcell⟩
 cases hv;rcases hcell with h0|⟨_,_,hg,hc⟩
 ·have:=h.1
  rw [cH blen]at this;omega
 ·cases hg
  have:=hc _ _ (bB blen cs i x hi 0 _ rfl)
  simpa using this
theorem fq {w:World}{ao:Option Addr}{N cap k:Nat}{xs:List Bool}{x:Bool}(h:Rd w 1 (.slice ao N cap) N (xs.flatMap dt))(hx:xs[k]?=some x)(hl:xs.length=N):∃g og,ao=some ⟨g,og,none⟩:=by
 have hlt:=(FO.1 hx).1;rcases h.2.2 with ⟨_,_,hv,_,_,_,hc⟩
 cases hv;rcases hc with h0|⟨g,o,hg,_⟩
 ·omega
 ·exact⟨g,o,hg⟩
theorem cT {w:World}{ao:Option Addr}{N cap k:Nat}{xs:List Val}{x:Val}(h:Rd w 3 (.slice ao N cap) N (xs.flatMap Val.cells))(hx:xs[k]?=some x)(hl:xs.length=N):∃g og,ao=some ⟨g,og,none⟩:=by
 have hlt:=(FO.1 hx).1;rcases h.2.2 with ⟨_,_,hv,_,_,_,hc⟩
 cases hv;rcases hc with h0|⟨g,o,hg,_⟩
 ·omega
 ·exact⟨g,o,hg⟩
theorem mA {c:List Bool}{r:List Val}{j:Nat}{x:Val}{b:Bool}(hx:r[j]?=some x)(hb:c[j]?=some b):dX c r (j+1)=(dX c r j&&(decide (x.t=b)&&am x)):=by
 have hz:(r.zip c)[j]?=some (x,b):=by rw [List.getElem?_zip_eq_some];exact⟨hx,hb⟩
 unfold dX;rw [F3,hz,List.all_append];simp
theorem gP {c:List Bool}{r:List Val}{j n:Nat}(h:j≤n)(hf:dX c r j=false):dX c r n=false:=by
 unfold dX at *;rw [List.all_eq_false]at *;obtain⟨p,hp,h2⟩:=hf;exact⟨p,(List.take_subset_take_left (r.zip c) h) hp,h2⟩
theorem gq {w:World}{cv:Value}{c:List Bool}(h:fH w cv c):Calls Tryz.prog 31 #[.agg #[cv]] w fun e w'=>e = .returned (.int .i64 (chk c))∧Kept (fun _=>False) w w':=by
 obtain⟨_,m1,ao,cap,rfl,_⟩:=h;have HK:=FH (show Kept (fun _=>False) w (w.alloc (.cells #[.slice ao c.length cap] bN))from(Kept.refl _ _).alloc _);by_cases h1:1≤c.length
 ·by_cases h2:c.length≤4
  ·have HM:=FH (show chk c=0 by simp [chk,cj,h1,h2])
   have e1:¬((c.length:Int)<1):=by omega
   have e2:¬((c.length:Int) > 4):=by omega
   go_enter Tryz.func31,Tryz.ntmps31;go_wp2_with fail;go_ret;rw [HM.out];exact⟨rfl,HK.out⟩
  ·have HM:=FH (show chk c=1 by simp [chk,cj,h2])
   have e1:¬((c.length:Int)<1):=by omega
   have e2:((c.length:Int) > 4):=by omega
   go_enter Tryz.func31,Tryz.ntmps31;go_wp2_with fail;go_ret;rw [HM.out];exact⟨rfl,HK.out⟩
 ·have HM:=FH (show chk c=1 by simp [chk,cj,h1])
  have e1:((c.length:Int)<1):=by omega
  go_enter Tryz.func31,Tryz.ntmps31;go_wp2_with fail;go_ret;rw [HM.out];exact⟨rfl,HK.out⟩
theorem mW {w:World}{cv rv:Value}{c:List Bool}{r:List Val}(hc:fH w cv c)(hr:em w rv r):Calls Tryz.prog 35 #[.agg #[cv],rv] w fun e w'=>e = .returned (.bool (aX c r))∧Kept (fun _=>False) w w':=by
 have hk1:Kept (fun _=>False) w (w.alloc (.cells #[cv] bN)):=(Kept.refl _ _).alloc _;have hb1:(w.alloc (.cells #[cv] bN)).heap[w.heap.size]?=some (.cells #[cv] bN (0,0)):=ak w _;have HC:=FH (Rd.kept hc hk1 (fun _ _ h=>h));have HR:=FH (Rd.kept hr hk1 (fun _ _ h=>h));have wN:=FH hk1;have wL:=FH hb1;obtain⟨-,m1,co,ccap,rfl,-⟩:=hc;obtain⟨-,m2,ro,rcap,rfl,-⟩:=hr;clear hk1 hb1;go_enter Tryz.func35,Tryz.ntmps35;go_upto_region 1 with (fail)
 obtain⟨W,hW⟩:∃W,W=w.alloc (.cells #[.slice co c.length ccap] bN):=⟨_,rfl⟩;rw [←hW]at HC HR wN wL ⊢;generalize w.heap.size=bt at wL ⊢;clear hW;obtain⟨b0,bf⟩:=aC wL.out;have yM:=FH (gq HC.out);cases hm:cj c
 ·have HM:=FH (show chk c=1 by simp [chk,hm])
  have HF:=FH (show aX c r=false by simp [aX,hm]);clear hm;go_wp2_with ((go_at_call 31;refine yM.out.mono ?_;rw [HM.out];rintro e1 w1 ⟨rfl,hk2⟩;have wV:=FH hk2;clear hk2 b0 bf));go_ret;rw [HF.out];exact⟨rfl,wN.out.trans wV.out (fun _ h=>h.elim)⟩
 have HM:=FH (show chk c=0 by simp [chk,hm]);by_cases hl:r.length=c.length
 ·obtain⟨N,hN⟩:∃N,r.length=N:=⟨_,rfl⟩
  have HF:=FH (show aX c r=dX c r N by unfold aX;rw [hm,F5 hl,hN];rfl);have HN:=FH hN;have hcn:c.length=N:=by omega
  have Au:=FH hcn;rw [hcn]at HC yM wL b0 m1 ⊢;rw [hN]at HR m2 ⊢;unfold maxLen at m1 m2;clear hm hl hN hcn;go_upto_region 3 with ((go_at_call 31;refine yM.out.mono ?_;rw [HM.out];rintro e1 w1 ⟨rfl,hk2⟩;have wV:=FH hk2;clear hk2 b0 bf;have hb1:=(wV.out.block _ (aw wL.out) (fun h=>h)).trans wL.out;obtain⟨b0,bf⟩:=aC hb1;have wX:=FH hb1;clear hb1))
  have ze:=FH (Rd.kept HC.out wV.out (fun _ _ h=>h));have A2:=FH (Rd.kept HR.out wV.out (fun _ _ h=>h));have xV:=FH (wN.out.trans wV.out (fun _ h=>h.elim));clear HC HR wL yM HM wN wV;go_wp2_with fail;clear b0 bf
  go_loopw [20] (fun idx wr=>∃j:Nat,idx = .int .i64 j∧j≤N∧dX c r j=true∧Kept (fun _=>False) w1 wr) (fun idx _=>N-(intOf idx).toNat)
  case atStart=>exact⟨0,rfl,Gp _,by simp [dX],Kept.refl _ _⟩
  case round =>
   obtain⟨j,rfl,hj,hno,hkr⟩:=hrel;by_cases hlt:j<N
   ·obtain⟨x,hx⟩:∃x,r[j]?=some x:=⟨r[j]'(by rw [HN.out];exact hlt),FP _⟩
    obtain⟨b,hb⟩:∃b,c[j]?=some b:=⟨c[j]'(by rw [Au.out];exact hlt),FP _⟩;have hrr:=Rd.kept A2.out hkr (fun _ _ h=>h);obtain⟨rg,rog,rfl⟩:=cT hrr hx HN.out;obtain⟨cg,cog,rfl⟩:=fq ze.out hb Au.out;obtain⟨y0,y1,y2⟩:=aE hrr hx;have hk3:Kept (fun _=>False) wr (wr.alloc (.cells #[.bool x.t,.int .i64 x.n,.string x.s] tV)):=(Kept.refl _ _).alloc _;have hb3:(wr.alloc (.cells #[.bool x.t,.int .i64 x.n,.string x.s] tV)).heap[wr.heap.size]?=some (.cells #[.bool x.t,.int .i64 x.n,.string x.s] tV (0,0)):=ak wr _;have hk4:=hkr.trans hk3 (fun _ h=>h.elim);have xL:=FH hb3;have xO:=FH hk4;have yJ:=FH (mA hx hb);have yw:=FH hno;have DB:=FH hb;have hib:(j:Int)<(N:Int):=by omega
    clear hx hb hrr hk3 hb3 hk4 hno hkr;go_upto_region 6 with (fail)
    obtain⟨W3,hW3⟩:∃W3,W3=wr.alloc (.cells #[.bool x.t,.int .i64 x.n,.string x.s] tV):=⟨_,rfl⟩;rw [←hW3]at xL xO ⊢;generalize wr.heap.size=bk at xL ⊢;clear hW3 y0 y1 y2;obtain⟨x0,x1,x2,xf⟩:=aQ xL.out;obtain⟨b0,bf⟩:=aC ((xO.out.block _ (aw wX.out) (fun h=>h)).trans wX.out);have hcc:=dZ (Rd.kept ze.out xO.out (fun _ _ h=>h)) DB.out;by_cases hxt:x.t=b
    ·subst hxt
     cases hv:am x
     ·have HV:=FH hv
      have yF:=FH (show dX c r N=false from gP (show j+1≤N by omega) (by rw [yJ.out,hv];simp));clear hv;refine aH [rq 0 10,rq 1 10,rq 2 10,rq 3 10,rq 4 10,rq 5 10,rq 6 10,rq 7 10,rq 8 10,rq 9 10,(10,true,0),rq 11 999,rq 12 999] ?_;(iterate 10 (first|(refine ax rfl rfl ?_;simp only [Act.put,FI,FJ,FK,FL,FM,FN])|((first|refine ae rfl rfl (fun K hK=>?_)|refine ar rfl rfl fun K hK=>?_);go_simp;apply hK;clear hK K)));refine af rfl ?_;refine al rfl fun K hK=>?_;go_simp;refine(cP x _).mono ?_;rintro e4 w4 ⟨rfl,hk5⟩;rw [HV.out];have xj:=FH (((xV.out.trans xO.out (fun _ h=>h.elim)).trans ((Kept.refl (fun _=>False) W3).drew) (fun _ h=>h.elim)).trans hk5 (fun _ h=>h.elim));clear hk5 x0 x1 x2 xf b0 bf hcc;refine hK _ _ ?_;clear hK K;refine wpList_nil ?_;apply And.intro
      ·go_simp
      (iterate 2 (first|(refine ax rfl rfl ?_;simp only [Act.put,FI,FJ,FK,FL,FM,FN])|((first|refine ae rfl rfl (fun K hK=>?_)|refine ar rfl rfl fun K hK=>?_);go_simp;apply hK;clear hK K)));refine ag ?_
      go_wp2_with fail;go_ret;rw [HF.out,yF.out];exact⟨rfl,xj.out⟩
     ·have HV:=FH hv
      have yF:=FH (show dX c r (j+1)=true by rw [yJ.out,hv,yw.out];simp);clear hv;refine aH [rq 0 10,rq 1 10,rq 2 10,rq 3 10,rq 4 10,rq 5 10,rq 6 10,rq 7 10,rq 8 10,rq 9 10,(10,true,0),rq 11 999,rq 12 999] ?_;(iterate 10 (first|(refine ax rfl rfl ?_;simp only [Act.put,FI,FJ,FK,FL,FM,FN])|((first|refine ae rfl rfl (fun K hK=>?_)|refine ar rfl rfl fun K hK=>?_);go_simp;apply hK;clear hK K)));refine af rfl ?_;refine al rfl fun K hK=>?_;go_simp;refine(cP x _).mono ?_;rintro e4 w4 ⟨rfl,hk5⟩;rw [HV.out];have xj:=FH ((xO.out.trans ((Kept.refl (fun _=>False) W3).drew) (fun _ h=>h.elim)).trans hk5 (fun _ h=>h.elim));clear hk5 x0 x1 x2 xf b0 bf hcc;refine hK _ _ ?_;clear hK K;refine wpList_nil ?_;apply And.intro
      ·go_simp
      (iterate 2 (first|(refine ax rfl rfl ?_;simp only [Act.put,FI,FJ,FK,FL,FM,FN])|((first|refine ae rfl rfl (fun K hK=>?_)|refine ar rfl rfl fun K hK=>?_);go_simp;apply hK;clear hK K)));refine ag ?_
      go_wp2_with fail;go_roundw
      case rel=>exact⟨j+1,by go_num,by omega,yF.out,xj.out⟩
      case measure=>simp [intOf];omega
    ·obtain rfl:b = !x.t:=by cases b<;>cases h:x.t<;>simp_all
     have yF:=FH (show dX c r N=false from gP (show j+1≤N by omega) (by rw [yJ.out];simp));clear hxt;refine aH [rq 0 10,rq 1 10,rq 2 10,rq 3 10,rq 4 10,rq 5 10,rq 6 10,rq 7 10,rq 8 10,rq 9 10,(10,true,0),rq 11 999,rq 12 999] ?_;(iterate 10 (first|(refine ax rfl rfl ?_;simp only [Act.put,FI,FJ,FK,FL,FM,FN])|((first|refine ae rfl rfl (fun K hK=>?_)|refine ar rfl rfl fun K hK=>?_);go_simp;apply hK;clear hK K)));refine af rfl ?_;refine bU rfl ?_;simp only [Act.put,FI,FJ,FK];refine wpList_nil ?_;apply And.intro
     ·go_simp
     (iterate 2 (first|(refine ax rfl rfl ?_;simp only [Act.put,FI,FJ,FK,FL,FM,FN])|((first|refine ae rfl rfl (fun K hK=>?_)|refine ar rfl rfl fun K hK=>?_);go_simp;apply hK;clear hK K)));refine ag ?_
     have xj:=FH ((xV.out.trans xO.out (fun _ h=>h.elim)).trans ((Kept.refl (fun _=>False) W3).drew) (fun _ h=>h.elim));go_wp2_with fail;go_ret;rw [HF.out,yF.out];exact⟨rfl,xj.out⟩
   ·obtain rfl:j=N:=by omega
    have yF:=FH hno;have DC:=FH (xV.out.trans hkr (fun _ h=>h.elim));clear hno hkr;go_wp2_with fail;go_ret;rw [HF.out,yF.out];exact⟨rfl,DC.out⟩
 ·have HF:=FH (show aX c r=false by unfold aX;rw [hm,FY hl];rfl)
  have hl':¬((r.length:Int)=(c.length:Int)):=by omega
  clear hm hl;go_wp2_with ((go_at_call 31;refine yM.out.mono ?_;rw [HM.out];rintro e1 w1 ⟨rfl,hk2⟩;have wV:=FH hk2;clear hk2 b0 bf;obtain⟨b0,bf⟩:=aC ((wV.out.block _ (aw wL.out) (fun h=>h)).trans wL.out)));go_ret;rw [HF.out];exact⟨rfl,wN.out.trans wV.out (fun _ h=>h.elim)⟩
theorem gH {α:Type}{l1 l2:List α}{k:Nat}{a:α}(h:l1.take k=l2.take k)(h1:l1[k]?=some a)(h2:l2[k]?=some a):l1.take (k+1)=l2.take (k+1):=by
 rw [F3,F3,h,h1,h2]
theorem kH {α:Type}{l1 l2:List α}{k:Nat}(h:l1.take k=l2.take k)(h1:l1.length≤k)(h2:l2.length≤k):l1=l2:=by
 rw [FS h1,FS h2]at h;exact h
theorem dh {w:World}{g o:Nat}{x:PredE}(h:w.rangeAt g o x.cells):(loadVar tPr ⟨g,o,none⟩).run Tryz.prog w = .ok (.agg x.cells.toArray) w:=run_loadVar_mid w g o _ _ _ h Tryz.underlying30 rfl (by kernel_rfl)
theorem cu {w:World}{b:Nat}{x:PredE}{t:TypeId}{fr:Nat×Nat}(h:w.heap[b]?=some (.cells x.cells.toArray t fr)) :
  w.cell? ⟨b,0,none⟩=some (.int .i64 x.op)∧w.cell? ⟨b,1,none⟩=some (.int .i64 x.col)∧w.cell? ⟨b,2,none⟩=some (.bool x.v.t)∧w.cell? ⟨b,3,none⟩=some (.int .i64 x.v.n)∧w.cell? ⟨b,4,none⟩=some (.string x.v.s)∧w.cell? ⟨b,5,none⟩=some (.bool x.w.t)∧w.cell? ⟨b,6,none⟩=some (.int .i64 x.w.n)∧w.cell? ⟨b,7,none⟩=some (.string x.w.s)∧w.cell? ⟨b,8,none⟩=some (.slice x.la x.ln x.lc):=by
 refine⟨?_,?_,?_,?_,?_,?_,?_,?_,?_⟩<;>simp [World.cell?,h,PredE.cells]
theorem sQ (w:World)(c1 c2:Array Value)(t1 t2:TypeId):∃W,W=(w.alloc (.cells c1 t1)).alloc (.cells c2 t2)∧Kept (fun _=>False) w W∧W.heap[w.heap.size]?=some (.cells c1 t1 (0,0))∧W.heap[w.heap.size+1]?=some (.cells c2 t2 (0,0)):=by
 have z1:(w.alloc (.cells c1 t1)).heap.size=w.heap.size+1:=Array.size_push ..;have a1:=ak (w.alloc (.cells c1 t1)) (.cells c2 t2);rw [z1]at a1;exact⟨_,rfl,((Kept.refl _ _).alloc _).alloc _,de (ak w _),a1⟩
end Go.Proofs.YtdobimafhbfkhaaGreat
namespace Go.Proofs.YtdobimafhbfkhaaGreat
open Go.ChangeShapes Go.WideShapes Go.ChangeAt Go.RowKit
set_option linter.unusedSimpArgs false
theorem gL {P:Program}{w:World}{o:Oper}{a:Act}{ops:Array Oper}{rest:List Oper}{Q:Exit→Act→World→Prop}(hgd:Region.wanted o (yielded ops a.tmps)=true)(ty:TypeId)(x:Operand)(ho:o.op = .load ty x)(b i:Nat)(hx:a.eval x = .pointer (some ⟨b,i,none⟩))(cs:List Value)
  (hl:(loadVar ty ⟨b,i,none⟩).run P w = .ok (.agg cs.toArray) w) (h:wpList P ops Q rest (a.put o.dst (.agg cs.toArray)) w):wpList P ops Q (o::rest) a w :=
 al hgd fun _ hK=>by
  unfold Oper.wp execOp;simp only [ho,hx,Instr.loadAt,Instr.sureAddr,Sem.run_bind,Sem.run_pure,Result.andThen_ok,hl];exact hK _ _ h
end Go.Proofs.YtdobimafhbfkhaaGreat
