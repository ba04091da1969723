/- Joined texts: The library's Delete of slices as the tree calls it, at what stands at a key. The tree in memory: nodes in a row, each with its keys, what stands there, and the nodes below. value.Right lies in Vals. row.Check, row.Fits. (printed by genlk.py) A predicate is loaded. A predicate in a box. Helpers for the oracle's texts. -/
import Derived.Test.YtdobimafhbfkhaaGreatOT8
import Derived.Test.YtdobimafhbfkhaaGreatOT4
import Derived.Test.YtdobimafhbfkhaaGreatOT3
set_option maxHeartbeats 64000000
namespace Go.Proofs.YtdobimafhbfkhaaGreat
open Go.ChangeShapes Go.WideShapes Go.ChangeAt Go.RowKit
set_option maxRecDepth 100000
set_option linter.unusedSimpArgs false
theorem lV : ∀u∈(Builtin.zeroCells (Value.slice none 0 0).cells 1).toList,u.oneCell'=true:=eZ oF 1
theorem mp (w:World):(zeroValue 26).run Tryz.prog w = .ok (.slice none 0 0) w:=Tryz.zeroValue26 w
theorem j9 {B w:World}{D:PH}{l:List HP}{v:Value}{n i:Nat}{xs ys:List Value}(hys:ys=xs.take (i*1)++xs.drop ((i+1)*1))(hin:i≤n)(hs:Sat B D w (aF 26 1 v (n+1) xs::l)) :
  Calls Tryz.prog 120 #[v,.int .i64 i,.int .i64 (i+1)] w fun e w'=>∃v',e = .returned v'∧Sat B D w' (aF 26 1 v' n ys::l):=by
 obtain⟨i0,hi,hz0,hz1,hz2⟩:=info_parts j6
 obtain⟨g,cap,rfl,hnc,hcm⟩:=(hs.own 0 rfl).form (by omega)
 have ho:=hs.own 0 rfl
 have hxl:=ho.1
 have hc1:=ho.2.1
 have hcm':=hcm
 unfold maxLen at hcm
 have hcut:=(hs.own_cut (m:=i) (c:=cap) (by omega) (by omega) (by omega)).drew
 have hrd1:∀o,(i+1<cap→o=(i+1))→Rd w.drew 1 (.slice (some ⟨g,o,none⟩) (n-i) (cap-(i+1))) (n-i) (xs.drop ((i+1)*1)):=fun o ho'=>by
  refine⟨by rw [List.length_drop,hxl,←Nat.sub_mul];congr 1;omega,by unfold maxLen;omega,_,_,rfl,by omega,by unfold maxLen;omega,(fun h=>by cases h),?_⟩
  by_cases hc:n-i=0
  ·exact .inl hc
  ·refine .inr ⟨g,_,rfl,fun j u hu=>?_⟩
   rw [ho' (by omega)]
   rw [List.getElem?_drop]at hu
   have:=ho.cells _ u hu
   simpa using this
 have HC:=CM hcut
 have uw:=CM hrd1
 have HI:=CM (And.intro hi (And.intro hz0 (And.intro hz1 hz2)))
 have HXL:=CM hxl
 have uV:=CM hc1
 have vq:=CM hys
 have uO:=CM (show ∀u∈xs.drop ((i+1)*1),u.oneCell'=true from fun u hu=>hc1 u (List.mem_of_mem_drop hu))
 clear hs ho hxl hc1 hcut hrd1 hi hz0 hz1 hz2 hys
 have hij:¬((i:Int)=(i:Int)+1):=by omega
 have htn:((i:Int)+1).toNat=i+1:=by omega
 have hb0:(0:Int)≤(i:Int)+1:=by omega
 have hb1:(i:Int)≤(i:Int)+1:=by omega
 have hb2:(i:Int)+1≤(n:Int)+1:=by omega
 have hb3:(n:Int)+1≤(cap:Int):=by omega
 have hb4:(i:Int)≤(cap:Int):=by omega
 have hb5:i≤cap:=by omega
 have hb7:¬(cap=n):=by omega
 go_enter Tryz.func120,Tryz.ntmps120
 go_upto_region 5 with (fail)
 by_cases hci:cap=i+1
 ·have hrd:=uw.out 0 (by omega)
  have HR:=CM hrd
  clear hrd uw
  subst hci
  obtain rfl:n=i:=by omega
  refine af [(0,false,6),(1,false,6),(2,false,6),(3,false,6),(4,false,6),(5,false,6),(6,true,0),(7,false,999)] (by kernel_rfl) (by kernel_rfl) ?_
  iterate 6 (refine ae rfl rfl (fun K hK=>?_);go_simp;refine hK _ ?_;clear hK K)
  refine ag rfl ?_
  refine bU _ rfl _ _ 55 rfl 26 i0 1 Tryz.underlying55 HI.out.1 HI.out.2.2.1 g n _ _ rfl HC.out (.slice (some ⟨g,0,none⟩) 0 0) 0 _ rfl (by simpa using HR.out) uO.out (by omega) ?_
  intro w3 h3
  rw [Nat.add_zero]at h3 ⊢
  obtain⟨cur,h4,_,_,hcz,hct,_,hcl⟩:=h3.own_row
  have H4:=CM h4
  have vM:=CM hct
  clear h3 h4 hct hcl HC HR
  refine wpList_nil ?_
  refine And.intro ?_ ?_
  ·go_simp
  refine ae rfl rfl (fun K hK=>?_);go_simp;refine hK _ ?_;clear hK K
  refine ah ?_
  go_wp2_with (show wpList _ _ _ (⟨none,.call _,_,_,_,_⟩::_) _ _;refine cG _ rfl _ 55 rfl 26 _ Tryz.underlying55 (fun w=>mp w) g _ 1 _ rfl cur H4.out (by omega) (by simp [size_zeroCells,Value.cells];omega) lV ?_;intro w5 h5;have H5:=CM h5;clear h5)
  go_ret
  refine⟨_,rfl,H5.out.row_own (by omega) hcm' (by rw [cE _ _ _ (by simp [size_zeroCells,Value.cells];omega)];exact hcz) ?_ ?_⟩
  ·unfold lay
   rw [List.append_assoc,List.take_append_of_le_length (by rw [List.length_take];omega),vq.out,←vM.out,List.take_take]
   congr 1
   omega
  ·intro u hu
   rw [vq.out]at hu
   exact(List.mem_append.1 hu).elim (fun h=>uV.out u (List.mem_of_mem_take h)) (fun h=>uV.out u (List.mem_of_mem_drop h))
 ·have hrd:=uw.out (i+1) (fun _=>rfl)
  have HR:=CM hrd
  clear hrd uw
  refine af [(0,false,6),(1,false,6),(2,false,6),(3,false,6),(4,false,6),(5,false,6),(6,true,0),(7,false,999)] (by kernel_rfl) (by kernel_rfl) ?_
  iterate 6 (refine ae rfl rfl (fun K hK=>?_);go_simp;refine hK _ ?_;clear hK K)
  refine ag rfl ?_
  refine bU _ rfl _ _ 55 rfl 26 i0 1 Tryz.underlying55 HI.out.1 HI.out.2.2.1 g i _ _ rfl HC.out (.slice (some ⟨g,(i+1),none⟩) (n-i) (cap-(i+1))) (n-i) _ rfl HR.out uO.out (by omega) ?_
  intro w3 h3
  rw [show i+(n-i)=n by omega]at h3 ⊢
  obtain⟨cur,h4,_,_,hcz,hct,_,hcl⟩:=h3.own_row
  have H4:=CM h4
  have vM:=CM hct
  clear h3 h4 hct hcl HC HR
  refine wpList_nil ?_
  refine And.intro ?_ ?_
  ·go_simp
  refine ae rfl rfl (fun K hK=>?_);go_simp;refine hK _ ?_;clear hK K
  refine ah ?_
  go_wp2_with (show wpList _ _ _ (⟨none,.call _,_,_,_,_⟩::_) _ _;refine cG _ rfl _ 55 rfl 26 _ Tryz.underlying55 (fun w=>mp w) g _ 1 _ rfl cur H4.out (by omega) (by simp [size_zeroCells,Value.cells];omega) lV ?_;intro w5 h5;have H5:=CM h5;clear h5)
  go_ret
  refine⟨_,rfl,H5.out.row_own (by omega) hcm' (by rw [cE _ _ _ (by simp [size_zeroCells,Value.cells];omega)];exact hcz) ?_ ?_⟩
  ·unfold lay
   rw [List.append_assoc,List.take_append_of_le_length (by rw [List.length_take];omega),vq.out,←vM.out,List.take_take]
   congr 1
   omega
  ·intro u hu
   rw [vq.out]at hu
   exact(List.mem_append.1 hu).elim (fun h=>uV.out u (List.mem_of_mem_take h)) (fun h=>uV.out u (List.mem_of_mem_drop h))
abbrev tT : TypeId:=119
abbrev tN : TypeId:=157
abbrev tV : TypeId:=24
abbrev tI : TypeId:=3
abbrev tW : TypeId:=26
theorem tM : (Tryz.prog.info? tN).map (fun i=>(i.zero,i.size,i.bytes))=some (some (.agg #[.bool false,.slice none 0 0,.slice none 0 0,.slice none 0 0]),4,80):=by kernel_rfl
structure RowT where
 ro:Option Addr
 rn:Nat
 rc:Nat
deriving DecidableEq
abbrev VT := RowT
def RowT.none : RowT:=⟨Option.none,0,0⟩
abbrev RowT.v (v:RowT):Value:=.slice v.ro v.rn v.rc
def dE (v:VT):List Value:=[.slice v.ro v.rn v.rc]
theorem jT (v:VT):(dE v).length=1:=rfl
theorem vone (v:VT):∀u∈dE v,u.oneCell'=true:=by intro u hu;simp [dE]at hu;subst hu;rfl
def ncells (n:Nat):List Value:=[.int .i64 n]
theorem iZ (n:Nat):(ncells n).length=1:=rfl
theorem sd (n:Nat):∀u∈ncells n,u.oneCell'=true:=by intro u hu;simp [ncells]at hu;subst hu;rfl
structure NodeM where
 leaf:Bool
 keys:List Val
 vals:List VT
 kids:List Nat
structure NodeV where
 kv:Value
 vv:Value
 dv:Value
abbrev NP := NodeV×NodeM
def aG (p:NP):List Value:=[.bool p.2.leaf,p.1.kv,p.1.vv,p.1.dv]
theorem eF (p:NP):(aG p).length=4:=rfl
abbrev da (kv:Value)(ks:List Val):HP:=aF tV 3 kv ks.length (ks.flatMap Val.cells)
abbrev cY (vv:Value)(vs:List VT):HP:=aF tW 1 vv vs.length (vs.flatMap dE)
abbrev bi (dv:Value)(ds:List Nat):HP:=aF tI 1 dv ds.length (ds.flatMap ncells)
def bS (p:NP):HP:=be [da p.1.kv p.2.keys,cY p.1.vv p.2.vals,bi p.1.dv p.2.kids]
structure Num where
 root:Int
 many:Int
 depth:Int
def aL (nv fv:Value)(k:Num):Array Value:=#[nv,fv,.int .i64 k.root,.int .i64 k.many,.int .i64 k.depth]
theorem dr {w:World}{e:TypeId}{z g N c n:Nat}{xs:List Value}(h:Own w e z (.slice (some ⟨g,0,none⟩) N c) n xs):N=n:=by
 obtain⟨_,_,hv,_⟩:=h.rd.2.2
 cases hv
 rfl
def TreeS (B:World)(D:PH)(w:World)(t:Nat)(nv fv:Value)(ns:List NP)(fr:List Nat)(k:Num)(l:List HP):Prop :=
 Sat B D w (blk t (aL nv fv k) tT::aF tN 4 nv ns.length (ns.flatMap aG)::bi fv fr::be (ns.map bS)::l)
section
variable {B w w' : World} {D : PH} {t : Nat} {nv fv : Value} {ns : List NP} {fr : List Nat} {k : Num} {l : List HP}
theorem TreeS.drew (h:TreeS B D w t nv fv ns fr k l):TreeS B D w.drew t nv fv ns fr k l:=Sat.drew h
theorem TreeS.kept (h:TreeS B D w t nv fv ns fr k l)(hk:Kept (fun _=>False) w w'):TreeS B D w' t nv fv ns fr k l:=Sat.kept h hk
theorem TreeS.tcells (h:TreeS B D w t nv fv ns fr k l):w.cell? ⟨t,0,none⟩=some nv∧w.cell? ⟨t,1,none⟩=some fv∧w.cell? ⟨t,2,none⟩=some (.int .i64 k.root)∧w.cell? ⟨t,3,none⟩=some (.int .i64 k.many)∧w.cell? ⟨t,4,none⟩=some (.int .i64 k.depth)∧∀j,w.frozen? ⟨t,j,none⟩=false :=
 mK (Sat.blk h 0 rfl)
theorem TreeS.nv_some (h:TreeS B D w t nv fv ns fr k l)(hp:0<ns.length):∃g c,nv = .slice (some ⟨g,0,none⟩) ns.length c∧ns.length≤c∧c≤maxLen:=(Sat.own h 1 rfl).form hp
theorem TreeS.nv_any (h:TreeS B D w t nv fv ns fr k l):∃o c,nv = .slice o ns.length c∧ns.length≤maxLen:=by
 obtain⟨_,h2,o,c,h3,_⟩:=(Sat.own h 1 rfl).rd
 exact⟨o,c,h3,h2⟩
theorem TreeS.fv_any (h:TreeS B D w t nv fv ns fr k l):∃o c,fv = .slice o fr.length c∧fr.length≤maxLen:=by
 obtain⟨_,h2,o,c,h3,_⟩:=(Sat.own h 2 rfl).rd
 exact⟨o,c,h3,h2⟩
theorem TreeS.node_cells {N g c:Nat}(h:TreeS B D w t (.slice (some ⟨g,0,none⟩) N c) fv ns fr k l){i:Nat}{p:NP}(hi:ns[i]?=some p) :
  w.cell? ⟨g,i*4,none⟩=some (.bool p.2.leaf)∧w.cell? ⟨g,i*4+1,none⟩=some p.1.kv∧w.cell? ⟨g,i*4+2,none⟩=some p.1.vv∧w.cell? ⟨g,i*4+3,none⟩=some p.1.dv∧∀j,w.frozen? ⟨g,j,none⟩=false:=by
 obtain rfl:=dr (Sat.own h 1 rfl)
 have ho:=Sat.own h 1 rfl
 have f:=fun j u hj=>ho.cells _ _ (bH eF ns i p hi j u hj)
 obtain⟨z,_,hr⟩:=ho.row
 exact⟨f 0 _ rfl,f 1 _ rfl,f 2 _ rfl,f 3 _ rfl,hr.frozen⟩
theorem bY {N g c:Nat}(ho:Own w tN 4 (.slice (some ⟨g,0,none⟩) N c) ns.length (ns.flatMap aG)){i:Nat}{p:NP}(hi:ns[i]?=some p) :
  w.cell? ⟨g,i*4,none⟩=some (.bool p.2.leaf)∧w.cell? ⟨g,i*4+1,none⟩=some p.1.kv∧w.cell? ⟨g,i*4+2,none⟩=some p.1.vv∧w.cell? ⟨g,i*4+3,none⟩=some p.1.dv∧∀j,w.frozen? ⟨g,j,none⟩=false:=by
 obtain rfl:=dr ho
 have f:=fun j u hj=>ho.cells _ _ (bH eF ns i p hi j u hj)
 obtain⟨z,_,hr⟩:=ho.row
 exact⟨f 0 _ rfl,f 1 _ rfl,f 2 _ rfl,f 3 _ rfl,hr.frozen⟩
theorem TreeS.focus (h:TreeS B D w t nv fv ns fr k l){i:Nat}{p:NP}(hi:ns[i]?=some p) :
  Sat B D w (da p.1.kv p.2.keys::cY p.1.vv p.2.vals::bi p.1.dv p.2.kids::blk t (aL nv fv k) tT::aF tN 4 nv ns.length (ns.flatMap aG)::bi fv fr::be ((ns.map bS).eraseIdx i)::l):=by
 have h1:Sat B D w (ns.map bS++(blk t (aL nv fv k) tT::aF tN 4 nv ns.length (ns.flatMap aG)::bi fv fr::l)):=by
  refine Sat.ungroup (Sat.perm h ?_)
  exact(List.perm_middle (l₁:=[blk t (aL nv fv k) tT,aF tN 4 nv ns.length (ns.flatMap aG),bi fv fr]) (a:=be (ns.map bS)) (l₂:=l))
 have hmi:(ns.map bS)[i]?=some (bS p):=by rw [List.getElem?_map,hi];rfl
 have h2:=h1.perm ((ft _ i _ hmi).append_right _)
 have h3:=h2.ungroup
 have h4:Sat B D w ([da p.1.kv p.2.keys,cY p.1.vv p.2.vals,bi p.1.dv p.2.kids]++((ns.map bS).eraseIdx i++(blk t (aL nv fv k) tT::aF tN 4 nv ns.length (ns.flatMap aG)::bi fv fr::l))):=h3
 have h5:=(h4.perm (List.perm_append_comm_assoc _ _ _)).togroup
 exact h5.perm (List.perm_middle (l₁:=[da p.1.kv p.2.keys,cY p.1.vv p.2.vals,bi p.1.dv p.2.kids,blk t (aL nv fv k) tT,aF tN 4 nv ns.length (ns.flatMap aG),bi fv fr]) (a:=be ((ns.map bS).eraseIdx i)) (l₂:=l)).symm
theorem TreeS.unfocus {i:Nat}{p p':NP}(hi:ns[i]?=some p)
  (h:Sat B D w (da p'.1.kv p'.2.keys::cY p'.1.vv p'.2.vals::bi p'.1.dv p'.2.kids::blk t (aL nv fv k) tT::aF tN 4 nv ns.length ((ns.set i p').flatMap aG)::bi fv fr::be ((ns.map bS).eraseIdx i)::l)) :
  TreeS B D w t nv fv (ns.set i p') fr k l:=by
 have h5:=(h.perm (List.perm_middle (l₁:=[da p'.1.kv p'.2.keys,cY p'.1.vv p'.2.vals,bi p'.1.dv p'.2.kids,blk t (aL nv fv k) tT,aF tN 4 nv ns.length ((ns.set i p').flatMap aG),bi fv fr]) (a:=be ((ns.map bS).eraseIdx i)) (l₂:=l))).ungroup
 have h4:=h5.perm (List.perm_append_comm_assoc (l₂:=[da p'.1.kv p'.2.keys,cY p'.1.vv p'.2.vals,bi p'.1.dv p'.2.kids]) ((ns.map bS).eraseIdx i) (blk t (aL nv fv k) tT::aF tN 4 nv ns.length ((ns.set i p').flatMap aG)::bi fv fr::l))
 have h3:Sat B D w (bS p'::((ns.map bS).eraseIdx i++(blk t (aL nv fv k) tT::aF tN 4 nv ns.length ((ns.set i p').flatMap aG)::bi fv fr::l))):=h4.togroup
 have hmi:(ns.map bS)[i]?=some (bS p):=by rw [List.getElem?_map,hi];rfl
 have h2:Sat B D w ((ns.set i p').map bS++(blk t (aL nv fv k) tT::aF tN 4 nv ns.length ((ns.set i p').flatMap aG)::bi fv fr::l)):=by
  rw [List.map_set]
  exact h3.perm ((gl (bS p') _ i _ hmi).symm.append_right _)
 have h1:=h2.togroup.perm (List.perm_middle (l₁:=[blk t (aL nv fv k) tT,aF tN 4 nv ns.length ((ns.set i p').flatMap aG),bi fv fr]) (a:=be ((ns.set i p').map bS)) (l₂:=l)).symm
 unfold TreeS
 rw [List.length_set]
 exact h1
theorem TreeS.keys_rd (h:TreeS B D w t nv fv ns fr k l){i:Nat}{p:NP}(hi:ns[i]?=some p):Rd w 3 p.1.kv p.2.keys.length (p.2.keys.flatMap Val.cells):=(Sat.own (h.focus hi) 0 rfl).rd
theorem TreeS.vals_rd (h:TreeS B D w t nv fv ns fr k l){i:Nat}{p:NP}(hi:ns[i]?=some p):Rd w 1 p.1.vv p.2.vals.length (p.2.vals.flatMap dE):=(Sat.own (h.focus hi) 1 rfl).rd
theorem TreeS.kids_rd (h:TreeS B D w t nv fv ns fr k l){i:Nat}{p:NP}(hi:ns[i]?=some p):Rd w 1 p.1.dv p.2.kids.length (p.2.kids.flatMap ncells):=(Sat.own (h.focus hi) 2 rfl).rd
theorem dF (j:Nat)(p p':NP)(u:Value)(hj:j<4)(hp:(aG p).set j u=aG p'):∀(ns:List NP) (i:Nat),ns[i]?=some p→(ns.flatMap aG).set (i*4+j) u=(ns.set i p').flatMap aG
 | [],i,h=>by simp at h
 | x::ns,0,h=>by
  simp only [List.getElem?_cons_zero,Option.some.injEq]at h
  subst h
  rw [Nat.zero_mul,Nat.zero_add,List.flatMap_cons,CQ,List.flatMap_cons,List.set_append_left _ _ (by rw [eF];exact hj),hp]
 | x::ns,i+1,h=>by
  rw [List.flatMap_cons,CP,List.flatMap_cons,List.set_append_right _ _ (by rw [eF];omega),eF,show(i+1)*4+j-4=i*4+j by omega,dF j p p' u hj hp ns i (by simpa using h)]
theorem TreeS.set_keys {N g c:Nat}{i:Nat}{p:NP}(hi:ns[i]?=some p){kv:Value}{ks:List Val}
  (h:Sat B D w (da kv ks::cY p.1.vv p.2.vals::bi p.1.dv p.2.kids::blk t (aL (.slice (some ⟨g,0,none⟩) N c) fv k) tT::aF tN 4 (.slice (some ⟨g,0,none⟩) N c) ns.length (ns.flatMap aG)::bi fv fr::be ((ns.map bS).eraseIdx i)::l)) :
  TreeS B D (w.setCell ⟨g,i*4+1,none⟩ kv) t (.slice (some ⟨g,0,none⟩) N c) fv (ns.set i (⟨kv,p.1.vv,p.1.dv⟩,{ p.2 with keys:=ks })) fr k l:=by
 obtain rfl:=dr (Sat.own h 4 rfl)
 have ho:=h.own_one
 have h1:=h.modify 4 rfl (fun _ hh=>hh.own_set (i*4+1) kv ho)
 simp only [CP,CQ]at h1
 rw [dF 1 p (⟨kv,p.1.vv,p.1.dv⟩,{ p.2 with keys:=ks }) kv (by omega) rfl ns i hi]at h1
 exact TreeS.unfocus hi h1
theorem TreeS.set_vals {N g c:Nat}{i:Nat}{p:NP}(hi:ns[i]?=some p){vv:Value}{vs:List VT}
  (h:Sat B D w (cY vv vs::da p.1.kv p.2.keys::bi p.1.dv p.2.kids::blk t (aL (.slice (some ⟨g,0,none⟩) N c) fv k) tT::aF tN 4 (.slice (some ⟨g,0,none⟩) N c) ns.length (ns.flatMap aG)::bi fv fr::be ((ns.map bS).eraseIdx i)::l)) :
  TreeS B D (w.setCell ⟨g,i*4+2,none⟩ vv) t (.slice (some ⟨g,0,none⟩) N c) fv (ns.set i (⟨p.1.kv,vv,p.1.dv⟩,{ p.2 with vals:=vs })) fr k l:=by
 obtain rfl:=dr (Sat.own h 4 rfl)
 have ho:=h.own_one
 have h1:=h.swap.modify 4 rfl (fun _ hh=>hh.own_set (i*4+2) vv ho)
 simp only [CP,CQ]at h1
 rw [dF 2 p (⟨p.1.kv,vv,p.1.dv⟩,{ p.2 with vals:=vs }) vv (by omega) rfl ns i hi]at h1
 exact TreeS.unfocus hi h1
theorem TreeS.set_kids {N g c:Nat}{i:Nat}{p:NP}(hi:ns[i]?=some p){dv:Value}{ds:List Nat}
  (h:Sat B D w (bi dv ds::da p.1.kv p.2.keys::cY p.1.vv p.2.vals::blk t (aL (.slice (some ⟨g,0,none⟩) N c) fv k) tT::aF tN 4 (.slice (some ⟨g,0,none⟩) N c) ns.length (ns.flatMap aG)::bi fv fr::be ((ns.map bS).eraseIdx i)::l)) :
  TreeS B D (w.setCell ⟨g,i*4+3,none⟩ dv) t (.slice (some ⟨g,0,none⟩) N c) fv (ns.set i (⟨p.1.kv,p.1.vv,dv⟩,{ p.2 with kids:=ds })) fr k l:=by
 obtain rfl:=dr (Sat.own h 4 rfl)
 have ho:=h.own_one
 have h1:=h.rot.modify 4 rfl (fun _ hh=>hh.own_set (i*4+3) dv ho)
 simp only [CP,CQ]at h1
 rw [dF 3 p (⟨p.1.kv,p.1.vv,dv⟩,{ p.2 with kids:=ds }) dv (by omega) rfl ns i hi]at h1
 exact TreeS.unfocus hi h1
def dW (leaf:Bool):NP:=(⟨.slice none 0 0,.slice none 0 0,.slice none 0 0⟩,⟨leaf,[],[],[]⟩)
theorem TreeS.reset {N g c:Nat}(h:TreeS B D w t (.slice (some ⟨g,0,none⟩) N c) fv ns fr k l){i:Nat}{p:NP}(hi:ns[i]?=some p)(leaf:Bool) :
  TreeS B D ((((w.setCell ⟨g,i*4,none⟩ (.bool leaf)).setCell ⟨g,i*4+1,none⟩ (.slice none 0 0)).setCell ⟨g,i*4+2,none⟩ (.slice none 0 0)).setCell ⟨g,i*4+3,none⟩ (.slice none 0 0)) t (.slice (some ⟨g,0,none⟩) N c) fv
   (ns.set i (dW leaf)) fr k l:=by
 obtain rfl:=dr (Sat.own h 1 rfl)
 have h1:=((h.focus hi).drop.drop.drop).modify 1 rfl (fun _ hh=>(((hh.own_set (i*4) (.bool leaf) rfl).own_set (i*4+1) (.slice none 0 0) rfl).own_set (i*4+2) (.slice none 0 0) rfl).own_set (i*4+3) (.slice none 0 0) rfl)
 simp only [CP,CQ]at h1
 have e:((((ns.flatMap aG).set (i*4) (.bool leaf)).set (i*4+1) (.slice none 0 0)).set (i*4+2) (.slice none 0 0)).set (i*4+3) (.slice none 0 0)=(ns.set i (dW leaf)).flatMap aG:=by
  have hlt:=(List.getElem?_eq_some_iff.1 hi).1
  obtain⟨⟨kv,vv,dv⟩,⟨lf,ks,vs,ds⟩⟩:=p
  have e0:=dF 0 (⟨kv,vv,dv⟩,⟨lf,ks,vs,ds⟩) (⟨kv,vv,dv⟩,⟨leaf,[],[],[]⟩) (.bool leaf) (by omega) rfl ns i hi
  rw [Nat.add_zero]at e0
  have g:∀q:NP,(ns.set i q)[i]?=some q:=fun q=>List.getElem?_set_self hlt
  rw [e0,dF 1 (⟨kv,vv,dv⟩,⟨leaf,[],[],[]⟩) (⟨.slice none 0 0,vv,dv⟩,⟨leaf,[],[],[]⟩) _ (by omega) rfl _ i (g _),List.set_set,
   dF 2 (⟨.slice none 0 0,vv,dv⟩,⟨leaf,[],[],[]⟩) (⟨.slice none 0 0,.slice none 0 0,dv⟩,⟨leaf,[],[],[]⟩) _ (by omega) rfl _ i (g _),List.set_set,
   dF 3 (⟨.slice none 0 0,.slice none 0 0,dv⟩,⟨leaf,[],[],[]⟩) (dW leaf) (.slice none 0 0) (by omega) rfl _ i (g _),List.set_set]
 rw [e]at h1
 exact TreeS.unfocus (p':=(dW leaf)) hi (((h1.own_nil tI 1).own_nil tW 1).own_nil tV 3)
theorem TreeS.push {g c:Nat}(leaf:Bool)
  (h1:Sat B D w' (aF tN 4 (.slice (some ⟨g,0,none⟩) (ns.length+1) c) (ns.length+1) (ns.flatMap aG ++ [.bool leaf,.slice none 0 0,.slice none 0 0,.slice none 0 0])::blk t (aL nv fv k) tT::bi fv fr::be (ns.map bS)::l)) :
  TreeS B D (w'.setCell ⟨t,0,none⟩ (.slice (some ⟨g,0,none⟩) (ns.length+1) c)) t (.slice (some ⟨g,0,none⟩) (ns.length+1) c) fv (ns ++ [dW leaf]) fr k l:=by
 have h2:=(h1.swap.set 0 (.slice (some ⟨g,0,none⟩) (ns.length+1) c))
 have h3:=((h2.own_nil tI 1).own_nil tW 1).own_nil tV 3
 generalize hc:[Value.bool leaf,.slice none 0 0,.slice none 0 0,.slice none 0 0]=cs at *
 have h4:Sat B D (w'.setCell ⟨t,0,none⟩ (.slice (some ⟨g,0,none⟩) (ns.length+1) c)) (bS (dW leaf)::blk t (aL (.slice (some ⟨g,0,none⟩) (ns.length+1) c) fv k) tT::aF tN 4 (.slice (some ⟨g,0,none⟩) (ns.length+1) c) (ns.length+1) (ns.flatMap aG++cs)::bi fv fr::be (ns.map bS)::l) :=
  Sat.togroup (L:=[da (.slice none 0 0) [],cY (.slice none 0 0) [],bi (.slice none 0 0) []]) h3
 have h5:=(h4.perm (List.perm_middle (l₁:=[bS (dW leaf),blk t (aL (.slice (some ⟨g,0,none⟩) (ns.length+1) c) fv k) tT,aF tN 4 (.slice (some ⟨g,0,none⟩) (ns.length+1) c) (ns.length+1) (ns.flatMap aG++cs),bi fv fr]) (a:=be (ns.map bS)) (l₂:=l))).ungroup
 have h6:Sat B D (w'.setCell ⟨t,0,none⟩ (.slice (some ⟨g,0,none⟩) (ns.length+1) c)) ((ns ++ [dW leaf]).map bS++(blk t (aL (.slice (some ⟨g,0,none⟩) (ns.length+1) c) fv k) tT::aF tN 4 (.slice (some ⟨g,0,none⟩) (ns.length+1) c) (ns.length+1) (ns.flatMap aG++cs)::bi fv fr::l)):=by
  rw [List.map_append,List.append_assoc]
  exact h5
 have h7:=h6.togroup.perm (List.perm_middle (l₁:=[blk t (aL (.slice (some ⟨g,0,none⟩) (ns.length+1) c) fv k) tT,aF tN 4 (.slice (some ⟨g,0,none⟩) (ns.length+1) c) (ns.length+1) (ns.flatMap aG++cs),bi fv fr]) (a:=be ((ns ++ [dW leaf]).map bS)) (l₂:=l)).symm
 unfold TreeS
 rw [List.length_append,List.flatMap_append]
 subst hc
 exact h7
theorem TreeS.set_free {fv':Value}{fr':List Nat}(h:TreeS B D w t nv fv ns fr k l)(f:∀l':List HP,Sat B D w (bi fv fr::l')→Sat B D w' (bi fv' fr'::l')) :
  TreeS B D (w'.setCell ⟨t,1,none⟩ fv') t nv fv' ns fr' k l:=by
 have h1:=(Sat.modify h 2 rfl f)
 simp only [CP,CQ]at h1
 exact h1.set 1 fv'
theorem TreeS.set_root (h:TreeS B D w t nv fv ns fr k l)(r:Int):TreeS B D (w.setCell ⟨t,2,none⟩ (.int .i64 r)) t nv fv ns fr { k with root:=r } l:=Sat.set h 2 _
theorem TreeS.set_many (h:TreeS B D w t nv fv ns fr k l)(r:Int):TreeS B D (w.setCell ⟨t,3,none⟩ (.int .i64 r)) t nv fv ns fr { k with many:=r } l:=Sat.set h 3 _
theorem TreeS.set_depth (h:TreeS B D w t nv fv ns fr k l)(r:Int):TreeS B D (w.setCell ⟨t,4,none⟩ (.int .i64 r)) t nv fv ns fr { k with depth:=r } l:=Sat.set h 4 _
theorem TreeS.hide (h:TreeS B D w t nv fv ns fr k l):∃W,W=w∧TreeS B D W t nv fv ns fr k l:=⟨w,rfl,h⟩
theorem Sat.bring {X:HP}{L:List HP}(hs:Sat B D w (X::L))(i:Nat){A:HP}(h:L[i]?=some A):Sat B D w (X::A::L.eraseIdx i):=hs.perm ((ft L i A h).cons X)
theorem TreeS.put_keys {N g c:Nat}{i:Nat}{p:NP}(hi:ns[i]?=some p){kv:Value}{ks:List Val}
  (h:Sat B D w (da kv ks::blk t (aL (.slice (some ⟨g,0,none⟩) N c) fv k) tT::aF tN 4 (.slice (some ⟨g,0,none⟩) N c) ns.length (ns.flatMap aG)::bi fv fr::be (ns.map bS)::l)) :
  TreeS B D (w.setCell ⟨g,i*4+1,none⟩ kv) t (.slice (some ⟨g,0,none⟩) N c) fv (ns.set i (⟨kv,p.1.vv,p.1.dv⟩,{ p.2 with keys:=ks })) fr k l:=by
 obtain rfl:=dr (Sat.own h 2 rfl)
 have h1:TreeS B D w t (.slice (some ⟨g,0,none⟩) ns.length c) fv ns fr k (da kv ks::l):=h.perm (List.perm_middle (l₁:=[blk t (aL (.slice (some ⟨g,0,none⟩) ns.length c) fv k) tT,aF tN 4 (.slice (some ⟨g,0,none⟩) ns.length c) ns.length (ns.flatMap aG),bi fv fr,be (ns.map bS)]) (a:=da kv ks) (l₂:=l)).symm
 have h2:=(h1.focus hi).drop.front 6 rfl
 simp only [List.eraseIdx_cons_succ,List.eraseIdx_cons_zero]at h2
 exact TreeS.set_keys hi h2
theorem TreeS.put_vals {N g c:Nat}{i:Nat}{p:NP}(hi:ns[i]?=some p){vv:Value}{vs:List VT}
  (h:Sat B D w (cY vv vs::blk t (aL (.slice (some ⟨g,0,none⟩) N c) fv k) tT::aF tN 4 (.slice (some ⟨g,0,none⟩) N c) ns.length (ns.flatMap aG)::bi fv fr::be (ns.map bS)::l)) :
  TreeS B D (w.setCell ⟨g,i*4+2,none⟩ vv) t (.slice (some ⟨g,0,none⟩) N c) fv (ns.set i (⟨p.1.kv,vv,p.1.dv⟩,{ p.2 with vals:=vs })) fr k l:=by
 obtain rfl:=dr (Sat.own h 2 rfl)
 have h1:TreeS B D w t (.slice (some ⟨g,0,none⟩) ns.length c) fv ns fr k (cY vv vs::l):=h.perm (List.perm_middle (l₁:=[blk t (aL (.slice (some ⟨g,0,none⟩) ns.length c) fv k) tT,aF tN 4 (.slice (some ⟨g,0,none⟩) ns.length c) ns.length (ns.flatMap aG),bi fv fr,be (ns.map bS)]) (a:=cY vv vs) (l₂:=l)).symm
 have h2:=((h1.focus hi).swap.drop).front 6 rfl
 simp only [List.eraseIdx_cons_succ,List.eraseIdx_cons_zero]at h2
 exact TreeS.set_vals hi h2
theorem TreeS.put_kids {N g c:Nat}{i:Nat}{p:NP}(hi:ns[i]?=some p){dv:Value}{ds:List Nat}
  (h:Sat B D w (bi dv ds::blk t (aL (.slice (some ⟨g,0,none⟩) N c) fv k) tT::aF tN 4 (.slice (some ⟨g,0,none⟩) N c) ns.length (ns.flatMap aG)::bi fv fr::be (ns.map bS)::l)) :
  TreeS B D (w.setCell ⟨g,i*4+3,none⟩ dv) t (.slice (some ⟨g,0,none⟩) N c) fv (ns.set i (⟨p.1.kv,p.1.vv,dv⟩,{ p.2 with kids:=ds })) fr k l:=by
 obtain rfl:=dr (Sat.own h 2 rfl)
 have h1:TreeS B D w t (.slice (some ⟨g,0,none⟩) ns.length c) fv ns fr k (bi dv ds::l):=h.perm (List.perm_middle (l₁:=[blk t (aL (.slice (some ⟨g,0,none⟩) ns.length c) fv k) tT,aF tN 4 (.slice (some ⟨g,0,none⟩) ns.length c) ns.length (ns.flatMap aG),bi fv fr,be (ns.map bS)]) (a:=bi dv ds) (l₂:=l)).symm
 have h2:=(h1.focus hi).front 7 rfl
 have h3:=h2.front 3 rfl
 simp only [List.eraseIdx_cons_succ,List.eraseIdx_cons_zero]at h3
 have h4:=h3.drop
 exact TreeS.set_kids hi h4
theorem mI {e:TypeId}{size g n c m:Nat}{α:Type}{f:α→List Value}(hf:∀x,(f x).length=size){xs:List α}(hs:Sat B D w (aF e size (.slice (some ⟨g,0,none⟩) n c) n (xs.flatMap f)::l))(hn:n=xs.length)(hm:m≤n)(hc:n≤c) :
  Sat B D w (aF e size (.slice (some ⟨g,0,none⟩) m m) (xs.take m).length ((xs.take m).flatMap f)::l):=by
 have h:=hs.own_cut (m:=m) (c:=m) hm (Nat.le_refl _) (by omega)
 rw [eJ hf]at h
 rw [List.length_take,Nat.min_eq_left (by omega)]
 exact h
theorem TreeS.cut_keys {N g c gk nk ck m:Nat}{i:Nat}{p:NP}(h:TreeS B D w t (.slice (some ⟨g,0,none⟩) N c) fv ns fr k l)(hi:ns[i]?=some p)(hk:p.1.kv = .slice (some ⟨gk,0,none⟩) nk ck)(hm:m≤p.2.keys.length) :
  TreeS B D (w.setCell ⟨g,i*4+1,none⟩ (.slice (some ⟨gk,0,none⟩) m m)) t (.slice (some ⟨g,0,none⟩) N c) fv (ns.set i (⟨.slice (some ⟨gk,0,none⟩) m m,p.1.vv,p.1.dv⟩,{ p.2 with keys:=p.2.keys.take m })) fr k l:=by
 obtain rfl:=dr (Sat.own h 1 rfl)
 have h1:=h.focus hi
 rw [hk]at h1
 obtain⟨_,_,hv,hc,_⟩:=(h1.own 0 rfl).rd.2.2
 cases hv
 exact TreeS.set_keys hi (mI Val.len h1 rfl hm hc)
theorem TreeS.cut_vals {N g c gk nk ck m:Nat}{i:Nat}{p:NP}(h:TreeS B D w t (.slice (some ⟨g,0,none⟩) N c) fv ns fr k l)(hi:ns[i]?=some p)(hk:p.1.vv = .slice (some ⟨gk,0,none⟩) nk ck)(hm:m≤p.2.vals.length) :
  TreeS B D (w.setCell ⟨g,i*4+2,none⟩ (.slice (some ⟨gk,0,none⟩) m m)) t (.slice (some ⟨g,0,none⟩) N c) fv (ns.set i (⟨p.1.kv,.slice (some ⟨gk,0,none⟩) m m,p.1.dv⟩,{ p.2 with vals:=p.2.vals.take m })) fr k l:=by
 obtain rfl:=dr (Sat.own h 1 rfl)
 have h1:=(h.focus hi).swap
 rw [hk]at h1
 obtain⟨_,_,hv,hc,_⟩:=(h1.own 0 rfl).rd.2.2
 cases hv
 exact TreeS.set_vals hi (mI jT h1 rfl hm hc)
theorem TreeS.cut_kids {N g c gk nk ck m:Nat}{i:Nat}{p:NP}(h:TreeS B D w t (.slice (some ⟨g,0,none⟩) N c) fv ns fr k l)(hi:ns[i]?=some p)(hk:p.1.dv = .slice (some ⟨gk,0,none⟩) nk ck)(hm:m≤p.2.kids.length) :
  TreeS B D (w.setCell ⟨g,i*4+3,none⟩ (.slice (some ⟨gk,0,none⟩) m m)) t (.slice (some ⟨g,0,none⟩) N c) fv (ns.set i (⟨p.1.kv,p.1.vv,.slice (some ⟨gk,0,none⟩) m m⟩,{ p.2 with kids:=p.2.kids.take m })) fr k l:=by
 obtain rfl:=dr (Sat.own h 1 rfl)
 have h1:=(h.focus hi).front 2 rfl
 simp only [List.eraseIdx_cons_succ,List.eraseIdx_cons_zero]at h1
 rw [hk]at h1
 obtain⟨_,_,hv,hc,_⟩:=(h1.own 0 rfl).rd.2.2
 cases hv
 exact TreeS.set_kids hi (mI iZ h1 rfl hm hc)
def aU {α:Type}(l:List α)(i:Nat)(x:α):List α:=l.take i++x::l.drop i
theorem bO {α:Type}(l:List α)(i:Nat)(x:α):(aU l i x).length=l.length+1:=by simp [aU];omega
theorem dd {α:Type}{f:α→List Value}{size:Nat}(hf:∀x,(f x).length=size)(l:List α)(i:Nat)(x:α):(l.flatMap f).take (i*size)++f x++(l.flatMap f).drop (i*size)=(aU l i x).flatMap f:=by
 rw [eJ hf,fu hf]
 simp [aU]
theorem TreeS.alloc (h:TreeS B D w t nv fv ns fr k l)(cs:Array Value)(ty:TypeId):TreeS B D (w.alloc (.cells cs ty)) t nv fv ns fr k (Proofs.YtdobimafhbfkhaaGreat.blk w.heap.size cs ty::l) :=
 (Sat.alloc h cs ty).perm (List.perm_middle (l₁:=[Proofs.YtdobimafhbfkhaaGreat.blk t (aL nv fv k) tT,aF tN 4 nv ns.length (ns.flatMap aG),bi fv fr,be (ns.map bS)]) (a:=Proofs.YtdobimafhbfkhaaGreat.blk w.heap.size cs ty) (l₂:=l)).symm
theorem TreeS.drop {A:HP}(h:TreeS B D w t nv fv ns fr k (A::l)):TreeS B D w t nv fv ns fr k l :=
 (Sat.perm h (List.perm_middle (l₁:=[blk t (aL nv fv k) tT,aF tN 4 nv ns.length (ns.flatMap aG),bi fv fr,be (ns.map bS)]) (a:=A) (l₂:=l))).drop
theorem TreeS.for_keys {A:HP}(h:TreeS B D w t nv fv ns fr k (A::l)){i:Nat}{p:NP}(hi:ns[i]?=some p) :
  Sat B D w (da p.1.kv p.2.keys::A::cY p.1.vv p.2.vals::bi p.1.dv p.2.kids::blk t (aL nv fv k) tT::aF tN 4 nv ns.length (ns.flatMap aG)::bi fv fr::be ((ns.map bS).eraseIdx i)::l):=by
 have h1:=(h.focus hi).bring 6 rfl
 simp only [List.eraseIdx_cons_succ,List.eraseIdx_cons_zero]at h1
 exact h1
theorem TreeS.for_vals {A:HP}(h:TreeS B D w t nv fv ns fr k (A::l)){i:Nat}{p:NP}(hi:ns[i]?=some p) :
  Sat B D w (cY p.1.vv p.2.vals::A::da p.1.kv p.2.keys::bi p.1.dv p.2.kids::blk t (aL nv fv k) tT::aF tN 4 nv ns.length (ns.flatMap aG)::bi fv fr::be ((ns.map bS).eraseIdx i)::l):=by
 have h1:=(h.focus hi).swap.bring 6 rfl
 simp only [List.eraseIdx_cons_succ,List.eraseIdx_cons_zero]at h1
 exact h1
theorem TreeS.for_kids {A:HP}(h:TreeS B D w t nv fv ns fr k (A::l)){i:Nat}{p:NP}(hi:ns[i]?=some p) :
  Sat B D w (bi p.1.dv p.2.kids::A::da p.1.kv p.2.keys::cY p.1.vv p.2.vals::blk t (aL nv fv k) tT::aF tN 4 nv ns.length (ns.flatMap aG)::bi fv fr::be ((ns.map bS).eraseIdx i)::l):=by
 have h1:=(h.focus hi).front 2 rfl
 simp only [List.eraseIdx_cons_succ,List.eraseIdx_cons_zero]at h1
 have h2:=h1.bring 6 rfl
 simp only [List.eraseIdx_cons_succ,List.eraseIdx_cons_zero]at h2
 exact h2
theorem jV {size:Nat}{g n c m off:Nat}{α:Type}{f:α→List Value}(hf:∀x,(f x).length=size){xs:List α}(h:Rd w size (.slice (some ⟨g,0,none⟩) n c) xs.length (xs.flatMap f))(hm:m≤n)(hoff:m<c→off=m*size) :
  Rd w size (.slice (some ⟨g,off,none⟩) (n-m) (c-m)) (xs.drop m).length ((xs.drop m).flatMap f):=by
 obtain⟨h1,h2,_,_,hv,h3,h4,_,h5⟩:=h
 cases hv
 refine⟨cz hf _,by rw [List.length_drop];omega,_,_,by rw [List.length_drop],by rw [List.length_drop];omega,by omega,(fun h=>by cases h),?_⟩
 by_cases hz:(xs.drop m).length=0
 ·exact .inl hz
 ·rw [List.length_drop]at hz
  refine .inr ⟨g,off,rfl,fun j u hu=>?_⟩
  rcases h5 with h5|⟨_,_,hg,hc⟩
  ·omega
  ·cases hg
   rw [hoff (by omega)]
   have:=hc (m*size+j) u (by rw [←List.getElem?_drop,fu hf];exact hu)
   rw [Nat.zero_add]at this
   exact this
end
end Go.Proofs.YtdobimafhbfkhaaGreat
namespace Go.Proofs.YtdobimafhbfkhaaGreat
end Go.Proofs.YtdobimafhbfkhaaGreat
namespace Go.Proofs.YtdobimafhbfkhaaGreat
open Go.ChangeShapes Go.WideShapes Go.ChangeAt Go.RowKit
set_option maxRecDepth 100000
set_option linter.unusedSimpArgs false
abbrev aX : TypeId:=66
abbrev tTabs : TypeId:=22
def de (b:Bool):List Value:=[.bool b]
theorem blen (b:Bool):(de b).length=1:=rfl
abbrev bu (w:World)(v:Value)(c:List Bool):Prop:=Rd w 1 v c.length (c.flatMap de)
def cu (c:List Bool):Bool:=decide (1≤c.length)&&decide (c.length≤4)
def chk (c:List Bool):Int:=if cu c then 0 else 1
def dH (c:List Bool)(r:List Val)(n:Nat):Bool:=((r.zip c).take n).all fun p=>decide (p.1.t=p.2)&&am p.1
def bw (c:List Bool)(r:List Val):Bool:=cu c&&decide (r.length=c.length)&&dH c r r.length
theorem dG {w:World}{g o n c i:Nat}{x:Bool}{cs:List Bool}(h:Rd w 1 (.slice (some ⟨g,o,none⟩) n c) n (cs.flatMap de))(hi:cs[i]?=some x):w.cell? ⟨g,o+i,none⟩=some (.bool x):=by
 have hlt:=(List.getElem?_eq_some_iff.1 hi).1
 rcases h.2.2 with ⟨_,_,hv,_,_,_,hcell⟩
 cases hv
 rcases hcell with h0|⟨_,_,hg,hc⟩
 ·have:=h.1
  rw [cz blen]at this
  omega
 ·cases hg
  have:=hc _ _ (bH blen cs i x hi 0 _ rfl)
  simpa using this
theorem ez {w:World}{ao:Option Addr}{N cap k:Nat}{xs:List Bool}{x:Bool}(h:Rd w 1 (.slice ao N cap) N (xs.flatMap de))(hx:xs[k]?=some x)(hl:xs.length=N):∃g og,ao=some ⟨g,og,none⟩:=by
 have hlt:=(List.getElem?_eq_some_iff.1 hx).1
 rcases h.2.2 with ⟨_,_,hv,_,_,_,hc⟩
 cases hv
 rcases hc with h0|⟨g,o,hg,_⟩
 ·omega
 ·exact⟨g,o,hg⟩
theorem ef {w:World}{ao:Option Addr}{N cap k:Nat}{xs:List Val}{x:Val}(h:Rd w 3 (.slice ao N cap) N (xs.flatMap Val.cells))(hx:xs[k]?=some x)(hl:xs.length=N):∃g og,ao=some ⟨g,og,none⟩:=by
 have hlt:=(List.getElem?_eq_some_iff.1 hx).1
 rcases h.2.2 with ⟨_,_,hv,_,_,_,hc⟩
 cases hv
 rcases hc with h0|⟨g,o,hg,_⟩
 ·omega
 ·exact⟨g,o,hg⟩
theorem lq {c:List Bool}{r:List Val}{j:Nat}{x:Val}{b:Bool}(hx:r[j]?=some x)(hb:c[j]?=some b):dH c r (j+1)=(dH c r j&&(decide (x.t=b)&&am x)):=by
 have hz:(r.zip c)[j]?=some (x,b):=by rw [List.getElem?_zip_eq_some];exact⟨hx,hb⟩
 unfold dH
 rw [List.take_add_one,hz,List.all_append]
 simp
theorem fF {c:List Bool}{r:List Val}{j n:Nat}(h:j≤n)(hf:dH c r j=false):dH c r n=false:=by
 unfold dH at *
 rw [List.all_eq_false]at *
 obtain⟨p,hp,h2⟩:=hf
 exact⟨p,(List.take_subset_take_left (r.zip c) h) hp,h2⟩
theorem fp {w:World}{cv:Value}{c:List Bool}(h:bu w cv c):Calls Tryz.prog 31 #[.agg #[cv]] w fun e w'=>e = .returned (.int .i64 (chk c))∧Kept (fun _=>False) w w':=by
 obtain⟨_,m1,ao,cap,rfl,_⟩:=h
 have HK:=CM (show Kept (fun _=>False) w (w.alloc (.cells #[.slice ao c.length cap] aX))from(Kept.refl _ _).alloc _)
 by_cases h1:1≤c.length
 ·by_cases h2:c.length≤4
  ·have HM:=CM (show chk c=0 by simp [chk,cu,h1,h2])
   have e1:¬((c.length:Int)<1):=by omega
   have e2:¬((c.length:Int) > 4):=by omega
   go_enter Tryz.func31,Tryz.ntmps31
   go_wp2_with fail
   go_ret
   rw [HM.out]
   exact⟨rfl,HK.out⟩
  ·have HM:=CM (show chk c=1 by simp [chk,cu,h2])
   have e1:¬((c.length:Int)<1):=by omega
   have e2:((c.length:Int) > 4):=by omega
   go_enter Tryz.func31,Tryz.ntmps31
   go_wp2_with fail
   go_ret
   rw [HM.out]
   exact⟨rfl,HK.out⟩
 ·have HM:=CM (show chk c=1 by simp [chk,cu,h1])
  have e1:((c.length:Int)<1):=by omega
  go_enter Tryz.func31,Tryz.ntmps31
  go_wp2_with fail
  go_ret
  rw [HM.out]
  exact⟨rfl,HK.out⟩
theorem kX {w:World}{cv rv:Value}{c:List Bool}{r:List Val}(hc:bu w cv c)(hr:eh w rv r):Calls Tryz.prog 35 #[.agg #[cv],rv] w fun e w'=>e = .returned (.bool (bw c r))∧Kept (fun _=>False) w w':=by
 have hk1:Kept (fun _=>False) w (w.alloc (.cells #[cv] aX)):=(Kept.refl _ _).alloc _
 have hb1:(w.alloc (.cells #[cv] aX)).heap[w.heap.size]?=some (.cells #[cv] aX (0,0)):=aw w _
 have HC:=CM (Rd.kept hc hk1 (fun _ _ h=>h))
 have HR:=CM (Rd.kept hr hk1 (fun _ _ h=>h))
 have uq:=CM hk1
 have um:=CM hb1
 obtain⟨-,m1,co,ccap,rfl,-⟩:=hc
 obtain⟨-,m2,ro,rcap,rfl,-⟩:=hr
 clear hk1 hb1
 go_enter Tryz.func35,Tryz.ntmps35
 go_upto_region 1 with (fail)
 obtain⟨W,hW⟩:∃W,W=w.alloc (.cells #[.slice co c.length ccap] aX):=⟨_,rfl⟩
 rw [←hW]at HC HR uq um ⊢
 generalize w.heap.size=bt at um ⊢
 clear hW
 obtain⟨b0,bf⟩:=aq um.out
 have wQ:=CM (fp HC.out)
 cases hm:cu c
 ·have HM:=CM (show chk c=1 by simp [chk,hm])
  have HF:=CM (show bw c r=false by simp [bw,hm])
  clear hm
  go_wp2_with ((go_at_call 31;refine wQ.out.mono ?_;rw [HM.out];rintro e1 w1 ⟨rfl,hk2⟩;have ux:=CM hk2;clear hk2 b0 bf))
  go_ret
  rw [HF.out]
  exact⟨rfl,uq.out.trans ux.out (fun _ h=>h.elim)⟩
 have HM:=CM (show chk c=0 by simp [chk,hm])
 by_cases hl:r.length=c.length
 ·obtain⟨N,hN⟩:∃N,r.length=N:=⟨_,rfl⟩
  have HF:=CM (show bw c r=dH c r N by unfold bw;rw [hm,decide_eq_true hl,hN];rfl)
  have HN:=CM hN
  have hcn:c.length=N:=by omega
  have xD:=CM hcn
  rw [hcn]at HC wQ um b0 m1 ⊢
  rw [hN]at HR m2 ⊢
  unfold maxLen at m1 m2
  clear hm hl hN hcn
  go_upto_region 3 with ((go_at_call 31;refine wQ.out.mono ?_;rw [HM.out];rintro e1 w1 ⟨rfl,hk2⟩;have ux:=CM hk2;clear hk2 b0 bf;have hb1:=(ux.out.block _ (ax um.out) (fun h=>h)).trans um.out;obtain⟨b0,bf⟩:=aq hb1;have un:=CM hb1;clear hb1))
  have wD:=CM (Rd.kept HC.out ux.out (fun _ _ h=>h))
  have yh:=CM (Rd.kept HR.out ux.out (fun _ _ h=>h))
  have vI:=CM (uq.out.trans ux.out (fun _ h=>h.elim))
  clear HC HR um wQ HM uq ux
  go_wp2_with fail
  clear b0 bf
  go_loopw [20] (fun idx wr=>∃j:Nat,idx = .int .i64 j∧j≤N∧dH c r j=true∧Kept (fun _=>False) w1 wr) (fun idx _=>N-(intOf idx).toNat)
  case atStart=>exact⟨0,rfl,Nat.zero_le _,by simp [dH],Kept.refl _ _⟩
  case round =>
   obtain⟨j,rfl,hj,hno,hkr⟩:=hrel
   by_cases hlt:j<N
   ·obtain⟨x,hx⟩:∃x,r[j]?=some x:=⟨r[j]'(by rw [HN.out];exact hlt),List.getElem?_eq_getElem _⟩
    obtain⟨b,hb⟩:∃b,c[j]?=some b:=⟨c[j]'(by rw [xD.out];exact hlt),List.getElem?_eq_getElem _⟩
    have hrr:=Rd.kept yh.out hkr (fun _ _ h=>h)
    obtain⟨rg,rog,rfl⟩:=ef hrr hx HN.out
    obtain⟨cg,cog,rfl⟩:=ez wD.out hb xD.out
    obtain⟨y0,y1,y2⟩:=aM hrr hx
    have hk3:Kept (fun _=>False) wr (wr.alloc (.cells #[.bool x.t,.int .i64 x.n,.string x.s] tV)):=(Kept.refl _ _).alloc _
    have hb3:(wr.alloc (.cells #[.bool x.t,.int .i64 x.n,.string x.s] tV)).heap[wr.heap.size]?=some (.cells #[.bool x.t,.int .i64 x.n,.string x.s] tV (0,0)):=aw wr _
    have hk4:=hkr.trans hk3 (fun _ h=>h.elim)
    have HB3:=CM hb3
    have HK4:=CM hk4
    have vG:=CM (lq hx hb)
    have wb:=CM hno
    have AZ:=CM hb
    have hib:(j:Int)<(N:Int):=by omega
    clear hx hb hrr hk3 hb3 hk4 hno hkr
    go_upto_region 6 with (fail)
    obtain⟨W3,hW3⟩:∃W3,W3=wr.alloc (.cells #[.bool x.t,.int .i64 x.n,.string x.s] tV):=⟨_,rfl⟩
    rw [←hW3]at HB3 HK4 ⊢
    generalize wr.heap.size=bk at HB3 ⊢
    clear hW3 y0 y1 y2
    obtain⟨x0,x1,x2,xf⟩:=aT HB3.out
    obtain⟨b0,bf⟩:=aq ((HK4.out.block _ (ax un.out) (fun h=>h)).trans un.out)
    have hcc:=dG (Rd.kept wD.out HK4.out (fun _ _ h=>h)) AZ.out
    by_cases hxt:x.t=b
    ·subst hxt
     cases hv:am x
     ·have HV:=CM hv
      have vO:=CM (show dH c r N=false from fF (show j+1≤N by omega) (by rw [vG.out,hv];simp))
      clear hv
      refine af [(0,false,10),(1,false,10),(2,false,10),(3,false,10),(4,false,10),(5,false,10),(6,false,10),(7,false,10),(8,false,10),(9,false,10),(10,true,0),(11,false,999),(12,false,999)] (by kernel_rfl) (by kernel_rfl) ?_
      iterate 9 (refine ae rfl rfl (fun K hK=>?_);go_simp;refine hK _ ?_;clear hK K)
      first|(refine al rfl rfl ?_;simp only [Act.put,CO,CP,CQ,CR,CT,CU])|(refine ai rfl rfl (fun K hK=>?_);go_simp;refine hK _ ?_;clear hK K)
      refine ag rfl ?_
      refine au rfl (fun K hK=>?_)
      go_simp
      refine(aK x _).mono ?_
      rintro e4 w4 ⟨rfl,hk5⟩
      rw [HV.out]
      have uG:=CM (((vI.out.trans HK4.out (fun _ h=>h.elim)).trans ((Kept.refl (fun _=>False) W3).drew) (fun _ h=>h.elim)).trans hk5 (fun _ h=>h.elim))
      clear hk5 x0 x1 x2 xf b0 bf hcc
      refine hK _ _ ?_
      clear hK K
      refine wpList_nil ?_
      refine And.intro ?_ ?_
      ·go_simp
      first|(refine al rfl rfl ?_;simp only [Act.put,CO,CP,CQ,CR,CT,CU])|(refine ai rfl rfl (fun K hK=>?_);go_simp;refine hK _ ?_;clear hK K)
      refine ae rfl rfl (fun K hK=>?_);go_simp;refine hK _ ?_;clear hK K
      refine ah ?_
      go_wp2_with fail
      go_ret
      rw [HF.out,vO.out]
      exact⟨rfl,uG.out⟩
     ·have HV:=CM hv
      have vO:=CM (show dH c r (j+1)=true by rw [vG.out,hv,wb.out];simp)
      clear hv
      refine af [(0,false,10),(1,false,10),(2,false,10),(3,false,10),(4,false,10),(5,false,10),(6,false,10),(7,false,10),(8,false,10),(9,false,10),(10,true,0),(11,false,999),(12,false,999)] (by kernel_rfl) (by kernel_rfl) ?_
      iterate 9 (refine ae rfl rfl (fun K hK=>?_);go_simp;refine hK _ ?_;clear hK K)
      first|(refine al rfl rfl ?_;simp only [Act.put,CO,CP,CQ,CR,CT,CU])|(refine ai rfl rfl (fun K hK=>?_);go_simp;refine hK _ ?_;clear hK K)
      refine ag rfl ?_
      refine au rfl (fun K hK=>?_)
      go_simp
      refine(aK x _).mono ?_
      rintro e4 w4 ⟨rfl,hk5⟩
      rw [HV.out]
      have uG:=CM ((HK4.out.trans ((Kept.refl (fun _=>False) W3).drew) (fun _ h=>h.elim)).trans hk5 (fun _ h=>h.elim))
      clear hk5 x0 x1 x2 xf b0 bf hcc
      refine hK _ _ ?_
      clear hK K
      refine wpList_nil ?_
      refine And.intro ?_ ?_
      ·go_simp
      first|(refine al rfl rfl ?_;simp only [Act.put,CO,CP,CQ,CR,CT,CU])|(refine ai rfl rfl (fun K hK=>?_);go_simp;refine hK _ ?_;clear hK K)
      refine ae rfl rfl (fun K hK=>?_);go_simp;refine hK _ ?_;clear hK K
      refine ah ?_
      go_wp2_with fail
      go_roundw
      case rel=>exact⟨j+1,by go_num,by omega,vO.out,uG.out⟩
      case measure=>simp [intOf];omega
    ·obtain rfl:b = !x.t:=by cases b<;>cases h:x.t<;>simp_all
     have vO:=CM (show dH c r N=false from fF (show j+1≤N by omega) (by rw [vG.out];simp))
     clear hxt
     refine af [(0,false,10),(1,false,10),(2,false,10),(3,false,10),(4,false,10),(5,false,10),(6,false,10),(7,false,10),(8,false,10),(9,false,10),(10,true,0),(11,false,999),(12,false,999)] (by kernel_rfl) (by kernel_rfl) ?_
     iterate 9 (refine ae rfl rfl (fun K hK=>?_);go_simp;refine hK _ ?_;clear hK K)
     first|(refine al rfl rfl ?_;simp only [Act.put,CO,CP,CQ,CR,CT,CU])|(refine ai rfl rfl (fun K hK=>?_);go_simp;refine hK _ ?_;clear hK K)
     refine ag rfl ?_
     refine bW rfl ?_
     simp only [Act.put,CO,CP,CQ]
     refine wpList_nil ?_
     refine And.intro ?_ ?_
     ·go_simp
     first|(refine al rfl rfl ?_;simp only [Act.put,CO,CP,CQ,CR,CT,CU])|(refine ai rfl rfl (fun K hK=>?_);go_simp;refine hK _ ?_;clear hK K)
     refine ae rfl rfl (fun K hK=>?_);go_simp;refine hK _ ?_;clear hK K
     refine ah ?_
     have uG:=CM ((vI.out.trans HK4.out (fun _ h=>h.elim)).trans ((Kept.refl (fun _=>False) W3).drew) (fun _ h=>h.elim))
     go_wp2_with fail
     go_ret
     rw [HF.out,vO.out]
     exact⟨rfl,uG.out⟩
   ·obtain rfl:j=N:=by omega
    have vO:=CM hno
    have A0:=CM (vI.out.trans hkr (fun _ h=>h.elim))
    clear hno hkr
    go_wp2_with fail
    go_ret
    rw [HF.out,vO.out]
    exact⟨rfl,A0.out⟩
 ·have HF:=CM (show bw c r=false by unfold bw;rw [hm,decide_eq_false hl];rfl)
  have hl':¬((r.length:Int)=(c.length:Int)):=by omega
  clear hm hl
  go_wp2_with ((go_at_call 31;refine wQ.out.mono ?_;rw [HM.out];rintro e1 w1 ⟨rfl,hk2⟩;have ux:=CM hk2;clear hk2 b0 bf;obtain⟨b0,bf⟩:=aq ((ux.out.block _ (ax um.out) (fun h=>h)).trans um.out)))
  go_ret
  rw [HF.out]
  exact⟨rfl,uq.out.trans ux.out (fun _ h=>h.elim)⟩
theorem iR {α:Type}{l1 l2:List α}{k:Nat}{a:α}(h:l1.take k=l2.take k)(h1:l1[k]?=some a)(h2:l2[k]?=some a):l1.take (k+1)=l2.take (k+1):=by
 rw [List.take_add_one,List.take_add_one,h,h1,h2]
theorem jH {α:Type}{l1 l2:List α}{k:Nat}(h:l1.take k=l2.take k)(h1:l1.length≤k)(h2:l2.length≤k):l1=l2:=by
 rw [List.take_of_length_le h1,List.take_of_length_le h2]at h
 exact h
theorem dp {w:World}{g o:Nat}{x:PredE}(h:w.rangeAt g o x.cells):(loadVar tPr ⟨g,o,none⟩).run Tryz.prog w = .ok (.agg x.cells.toArray) w:=run_loadVar_mid w g o _ _ _ h Tryz.underlying30 rfl (by kernel_rfl)
theorem bh {w:World}{b:Nat}{x:PredE}{t:TypeId}{fr:Nat×Nat}(h:w.heap[b]?=some (.cells x.cells.toArray t fr)) :
  w.cell? ⟨b,0,none⟩=some (.int .i64 x.op)∧w.cell? ⟨b,1,none⟩=some (.int .i64 x.col)∧w.cell? ⟨b,2,none⟩=some (.bool x.v.t)∧w.cell? ⟨b,3,none⟩=some (.int .i64 x.v.n)∧w.cell? ⟨b,4,none⟩=some (.string x.v.s)∧w.cell? ⟨b,5,none⟩=some (.bool x.w.t)∧w.cell? ⟨b,6,none⟩=some (.int .i64 x.w.n)∧w.cell? ⟨b,7,none⟩=some (.string x.w.s)∧w.cell? ⟨b,8,none⟩=some (.slice x.la x.ln x.lc):=by
 refine⟨?_,?_,?_,?_,?_,?_,?_,?_,?_⟩<;>simp [World.cell?,h,PredE.cells]
theorem bC (w:World)(c1 c2:Array Value)(t1 t2:TypeId):∃W,W=(w.alloc (.cells c1 t1)).alloc (.cells c2 t2)∧Kept (fun _=>False) w W∧W.heap[w.heap.size]?=some (.cells c1 t1 (0,0))∧W.heap[w.heap.size+1]?=some (.cells c2 t2 (0,0)):=by
 have z1:(w.alloc (.cells c1 t1)).heap.size=w.heap.size+1:=Array.size_push ..
 have a1:=aw (w.alloc (.cells c1 t1)) (.cells c2 t2)
 rw [z1]at a1
 exact⟨_,rfl,((Kept.refl _ _).alloc _).alloc _,cR (aw w _),a1⟩
end Go.Proofs.YtdobimafhbfkhaaGreat
namespace Go.Proofs.YtdobimafhbfkhaaGreat
open Go.ChangeShapes Go.WideShapes Go.ChangeAt Go.RowKit
set_option linter.unusedSimpArgs false
theorem fU {P:Program}{w:World}{o:Oper}{a:Act}{ops:Array Oper}{rest:List Oper}{Q:Exit→Act→World→Prop}(hgd:Region.wanted o (yielded ops a.tmps)=true)(ty:TypeId)(x:Operand)(ho:o.op = .load ty x)(b i:Nat)(hx:a.eval x = .pointer (some ⟨b,i,none⟩))(cs:List Value)
  (hl:(loadVar ty ⟨b,i,none⟩).run P w = .ok (.agg cs.toArray) w) (h:wpList P ops Q rest (a.put o.dst (.agg cs.toArray)) w):wpList P ops Q (o::rest) a w :=
 au hgd fun _ hK=>by
  unfold Oper.wp execOp
  simp only [ho,hx,Instr.loadAt,Instr.sureAddr,Sem.run_bind,Sem.run_pure,Result.andThen_ok,hl]
  exact hK _ _ h
end Go.Proofs.YtdobimafhbfkhaaGreat
