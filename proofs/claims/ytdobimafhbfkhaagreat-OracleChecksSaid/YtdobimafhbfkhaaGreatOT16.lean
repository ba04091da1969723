/- Joined texts: The order of values: total; binary search by it. The tree: contracts of slot, give, size, below, Len, Depth, Used, Room. The tree: contracts of give, size, below. -/
import Derived.Test.YtdobimafhbfkhaaGreatOT5
import Derived.Test.YtdobimafhbfkhaaGreatOT9
set_option maxHeartbeats 64000000
namespace Go.Proofs.YtdobimafhbfkhaaGreat
open Go.ChangeShapes Go.WideShapes Go.ChangeAt Go.RowKit
set_option maxRecDepth 100000
set_option linter.unusedSimpArgs false
theorem lp : ∀(x y:List UInt8),Op.bytesLess x y=true→Op.bytesLess y x=false
 | _,[],h=>by simp [Op.bytesLess]at h
 | [],_::_,_=>by simp [Op.bytesLess]
 | a::x,b::y,h=>by
  simp only [Op.bytesLess,Bool.or_eq_true,Bool.and_eq_true,decide_eq_true_eq,beq_iff_eq]at h
  simp only [Op.bytesLess,Bool.or_eq_false_iff,Bool.and_eq_false_iff,decide_eq_false_iff_not,beq_eq_false_iff_ne]
  rw [UInt8.lt_iff_toNat_lt]at *
  rcases h with h|⟨rfl,h⟩
  ·exact⟨by omega,.inl (fun e=>by subst e;omega)⟩
  ·exact⟨by omega,.inr (lp x y h)⟩
theorem gj : ∀(x y:List UInt8),Op.bytesLess x y=false→Op.bytesLess y x=false→x=y
 | [],[],_,_=>rfl
 | [],_::_,h,_=>by simp [Op.bytesLess]at h
 | _::_,[],_,h=>by simp [Op.bytesLess]at h
 | a::x,b::y,h,h'=>by
  simp only [Op.bytesLess,Bool.or_eq_false_iff,Bool.and_eq_false_iff,decide_eq_false_iff_not,beq_eq_false_iff_ne]at h h'
  rw [UInt8.lt_iff_toNat_lt]at *
  obtain rfl:a=b:=UInt8.toNat_inj.1 (by omega)
  rcases h.2 with h2|h2
  ·exact absurd rfl h2
  ·rcases h'.2 with h3|h3
   ·exact absurd rfl h3
   ·rw [gj x y h2 h3]
theorem oE : ∀(x y z:List UInt8),Op.bytesLess x y=true→Op.bytesLess y z=true→Op.bytesLess x z=true
 | _,[],_,h,_=>by simp [Op.bytesLess]at h
 | _,_::_,[],_,h=>by simp [Op.bytesLess]at h
 | [],_::_,_::_,_,_=>by simp [Op.bytesLess]
 | a::x,b::y,c::z,h,h'=>by
  simp only [Op.bytesLess,Bool.or_eq_true,Bool.and_eq_true,decide_eq_true_eq,beq_iff_eq]at h h' ⊢
  rw [UInt8.lt_iff_toNat_lt]at *
  rcases h with h|⟨rfl,h⟩
  ·rcases h' with h'|⟨rfl,h'⟩
   ·exact .inl (by omega)
   ·exact .inl h
  ·rcases h' with h'|⟨rfl,h'⟩
   ·exact .inl h'
   ·exact .inr ⟨rfl,oE x y z h h'⟩
theorem me (a b:ByteArray):gh b a = - gh a b:=by
 unfold gh
 cases h1:Op.bytesLess a.toList b.toList
 ·cases h2:Op.bytesLess b.toList a.toList
  ·have:=gj _ _ h1 h2
   simp [this]
  ·have:¬(a.toList == b.toList)=true:=fun e=>by
    have:=eq_of_beq e
    rw [this]at h1 h2
    rw [h1]at h2;cases h2
   simp [this]
 ·have h2:=lp _ _ h1
  have:¬(b.toList == a.toList)=true:=fun e=>by
   have:=eq_of_beq e
   rw [this]at h1 h2
   rw [h1]at h2;cases h2
  simp [h2,this]
theorem mD {a b:ByteArray}:gh a b≤0↔Op.bytesLess b.toList a.toList=false:=by
 unfold gh
 cases h1:Op.bytesLess a.toList b.toList
 ·by_cases h2:(a.toList == b.toList)=true
  ·have:=eq_of_beq h2
   rw [this]at h1
   simp [h2,this,h1]
  ·simp only [Bool.false_eq_true,if_false,h2]
   constructor
   ·intro h;omega
   ·intro h;exact absurd (gj _ _ h1 h) (fun e=>h2 (by simp [e]))
 ·simp [lp _ _ h1]
theorem pH {a b c:ByteArray}(h:gh a b≤0)(h':gh b c≤0):gh a c≤0:=by
 rw [mD]at *
 cases h3:Op.bytesLess c.toList a.toList with
 | false=>rfl
 | true =>
  cases h4:Op.bytesLess a.toList b.toList with
  | true=>rw [oE _ _ _ h3 h4]at h';cases h'
  | false =>
   have:=gj _ _ h4 h
   rw [this]at h3
   rw [h3]at h';cases h'
theorem cmpS_eq {a b:ByteArray}(h:gh a b=0):a=b:=by
 have h1:Op.bytesLess b.toList a.toList=false:=mD.1 (by omega)
 have h2:Op.bytesLess a.toList b.toList=false:=mD.1 (by rw [me];omega)
 have h3:=gj _ _ h2 h1
 have:=lk a b
 rw [h3]at this
 simpa using this
theorem dj (a b:Val):ak b a = - ak a b:=by
 obtain⟨at_,an,as_⟩:=a
 obtain⟨bt,bn,bs⟩:=b
 cases at_<;>cases bt<;>simp [ak,me as_ bs]
 unfold jO
 repeat' split
 all_goals omega
theorem cV (a:Val):ak a a=0:=by have:=dj a a;omega
theorem l9 {a b c:Val}(h:ak a b≤0)(h':ak b c≤0):ak a c≤0:=by
 obtain⟨at_,an,as_⟩:=a
 obtain⟨bt,bn,bs⟩:=b
 obtain⟨ct,cn,cs⟩:=c
 cases at_<;>cases bt<;>cases ct<;>simp [ak]at h h' ⊢
 ·unfold jO at *
  repeat' split at h
  all_goals repeat' split at h'
  all_goals repeat' split
  all_goals omega
 ·exact pH h h'
theorem jG {a b c:Val}(h:ak a b≤0)(h':ak b c<0):ak a c<0:=by
 by_cases h3:ak a c<0
 ·exact h3
 ·have h4:ak c a≤0:=by rw [dj];omega
  have h5:=l9 h4 h
  rw [dj]at h5;omega
theorem i5 {a b c:Val}(h:ak a b<0)(h':ak b c≤0):ak a c<0:=by
 by_cases h3:ak a c<0
 ·exact h3
 ·have h4:ak c a≤0:=by rw [dj];omega
  have h5:=l9 h' h4
  rw [dj]at h5;omega
theorem eK {a b c:Val}(h:ak a b<0)(h':ak b c<0):ak a c<0:=jG (by omega) h'
theorem ec (a b:Val):ak a b > 0↔ak b a<0:=by rw [dj a b];omega
theorem jm {a b:Val}(ha:am a=true)(hb:am b=true)(h:ak a b=0):a=b:=by
 obtain⟨at_,an,as_⟩:=a
 obtain⟨bt,bn,bs⟩:=b
 cases at_<;>cases bt<;>simp [ak,am]at h ha hb ⊢
 ·refine⟨?_,by rw [ha,hb]⟩
  unfold jO at h
  repeat' split at h
  all_goals omega
 ·exact⟨by omega,cmpS_eq h⟩
theorem pF {cmp:Nat→Int}{n p:Nat}(h1:∀i,i<p→cmp i<0)(h2:∀i,p≤i→i<n→¬cmp i<0):∀(i j:Nat),i≤p→p≤j→j≤n→bsF cmp i j=p
 | i,j,hi,hj,hn=>by
  by_cases h:i<j
  ·rw [tU h]
   split
   ·rename_i hc
    exact pF h1 h2 _ _ (by
     by_cases hq:(i+j) / 2+1≤p
     ·exact hq
     ·exact absurd hc (h2 _ (by omega) (by omega))) hj hn
   ·rename_i hc
    exact pF h1 h2 _ _ hi (by
     by_cases hq:p≤(i+j) / 2
     ·exact hq
     ·exact absurd (h1 _ (by omega)) hc) (by omega)
  ·rw [tO h];omega
termination_by i j=>j-i
abbrev cw (ks:List Val):Prop:=ks.Pairwise (fun a b=>ak a b<0)
theorem gS {keys:List Val}{h:Nat}{x:Val}(k:Val)(hx:keys[h]?=some x):il keys k h=ak x k:=kr k hx
theorem jI (k:Val):∀ {ks:List Val},cw ks→∃p,p≤ks.length∧(∀i x,ks[i]?=some x→(i<p↔ak x k<0))
 | [],_=>⟨0,Nat.le_refl _,fun i x h=>by simp at h⟩
 | a::ks,h=>by
  obtain⟨p,hp,hx⟩:=jI k (List.pairwise_cons.1 h).2
  by_cases ha:ak a k<0
  ·refine⟨p+1,by simpa using hp,fun i x hi=>?_⟩
   cases i with
   | zero=>simp at hi;subst hi;simp [ha]
   | succ i=>have:=hx i x (by simpa using hi);omega
  ·refine⟨0,Nat.zero_le _,fun i x hi=>?_⟩
   cases i with
   | zero=>simp at hi;subst hi;simp [ha]
   | succ i =>
    have h1:=(List.pairwise_cons.1 h).1 x (List.mem_of_getElem? (by simpa using hi))
    have:¬ak x k<0:=fun h2=>ha (eK h1 h2)
    simp [this]
theorem fw {ks:List Val}(k:Val)(h:cw ks):∀i x,ks[i]?=some x→(i<bq ks k↔ak x k<0):=by
 obtain⟨p,hp,hx⟩:=jI k h
 have e:bq ks k=p:=by
  refine pF (n:=ks.length) (fun i hi=>?_) (fun i hi hn=>?_) 0 ks.length (Nat.zero_le _) hp (Nat.le_refl _)
  ·obtain⟨x,hxx⟩:∃x,ks[i]?=some x:=⟨_,List.getElem?_eq_getElem (by omega)⟩
   rw [gS k hxx]
   exact(hx i x hxx).1 hi
  ·obtain⟨x,hxx⟩:∃x,ks[i]?=some x:=⟨_,List.getElem?_eq_getElem (by omega)⟩
   rw [gS k hxx]
   exact fun hc=>by have:=(hx i x hxx).2 hc;omega
 rw [e]
 exact hx
theorem fl {ks:List Val}(k:Val):dI ks k=true↔∃x,ks[bq ks k]?=some x∧ak x k=0:=by
 unfold dI
 simp only [Bool.and_eq_true,decide_eq_true_eq]
 constructor
 ·rintro⟨h1,h2⟩
  exact⟨_,List.getElem?_eq_getElem h1,by rw [←h2,gS k (List.getElem?_eq_getElem h1)]⟩
 ·rintro⟨x,h1,h2⟩
  exact⟨(List.getElem?_eq_some_iff.1 h1).1,by rw [gS k h1];exact h2⟩
structure TM where
 nodes:List NodeM
 free:List Nat
 k:Num
def aS (leaf:Bool):NodeM:=⟨leaf,[],[],[]⟩
def TreeA (B:World)(D:PH)(w:World)(t:Nat)(T:TM)(l:List HP):Prop:=∃nv fv ns,ns.map Prod.snd=T.nodes∧TreeS B D w t nv fv ns T.free T.k l
theorem TreeA.kept {B w w':World}{D:PH}{t:Nat}{T:TM}{l:List HP}(h:TreeA B D w t T l)(hk:Kept (fun _=>False) w w'):TreeA B D w' t T l:=by
 obtain⟨nv,fv,ns,h1,h2⟩:=h
 exact⟨nv,fv,ns,h1,h2.kept hk⟩
theorem TreeA.drew {B w:World}{D:PH}{t:Nat}{T:TM}{l:List HP}(h:TreeA B D w t T l):TreeA B D w.drew t T l:=h.kept ((Kept.refl _ _).drew)
theorem aH {ns:List NP}{nodes:List NodeM}(h:ns.map Prod.snd=nodes){i:Nat}{m:NodeM}(hi:nodes[i]?=some m):∃v,ns[i]?=some (v,m):=by
 subst h
 rw [List.getElem?_map]at hi
 cases hn:ns[i]? with
 | none=>rw [hn]at hi;cases hi
 | some p=>rw [hn]at hi;cases hi;exact⟨p.1,rfl⟩
def TM.slot (T:TM)(leaf:Bool):Nat×TM:=match T.free.getLast? with
 | some i=>(i,{ T with nodes:=T.nodes.set i (aS leaf),free:=T.free.dropLast })
 | none=>(T.nodes.length,{ T with nodes:=T.nodes ++ [aS leaf] })
theorem j3 {B w:World}{D:PH}{t:Nat}{T:TM}{l:List HP}(leaf:Bool)(hfr:∀i,T.free.getLast?=some i→i<T.nodes.length)(hbig:T.nodes.length≤1000000)(hfb:T.free.length≤1000000)(h:TreeA B D w t T l) :
  Calls Tryz.prog 107 #[.pointer (some ⟨t,0,none⟩),.bool leaf] w fun e w'=>e = .returned (.int .i64 (T.slot leaf).1)∧TreeA B D w' t (T.slot leaf).2 l:=by
 obtain⟨nodes,free,k⟩:=T
 obtain⟨nv,fv,ns,hns,hs⟩:=h
 dsimp only at *
 subst hns
 rw [List.length_map]at hbig
 obtain⟨t0,t1,t2,t3,t4,tf⟩:=hs.tcells
 obtain⟨o,c,rfl,hnm⟩:=hs.nv_any
 obtain⟨fo,fc,rfl,hfm⟩:=hs.fv_any
 have hcc:free = []∨∃fr i,free=fr ++ [i]:=by
  rcases List.eq_nil_or_concat free with h|⟨fr,i,h⟩
  ·exact .inl h
  ·exact .inr ⟨fr,i,by rw [h,List.concat_eq_append]⟩
 rcases hcc with rfl|⟨fr,i,rfl⟩
 ·have HS:=CM hs
  have hslot:TM.slot ⟨ns.map Prod.snd,[],k⟩ leaf=(ns.length,⟨ns.map Prod.snd ++ [aS leaf],[],k⟩):=by simp [TM.slot]
  have xm:=CM hslot
  have hnew:=Sat.alloc hs #[.bool leaf,.slice none 0 0,.slice none 0 0,.slice none 0 0] tN
  have hb:=cd (size:=4) (n:=1) hnew.heap_blk rfl (by unfold maxLen;omega)
  have hn1:=(hnew.swap.perm ((List.Perm.swap _ _ _).cons _)).swap
  have HN:=CM hn1
  have HB:=CM hb
  obtain⟨i0,hi,hz0,hz1,hz2⟩:=info_parts tM
  have HI:=CM (And.intro hi (And.intro hz0 (And.intro hz1 hz2)))
  have HO:=CM (show ∀u∈[Value.bool leaf,.slice none 0 0,.slice none 0 0,.slice none 0 0],u.oneCell'=true by intro u hu;simp at hu;rcases hu with rfl|rfl<;>rfl)
  clear hs hslot hnew hn1 hb hi hz0 hz1 hz2
  dsimp only [List.length_nil]at *
  go_enter Tryz.func107,Tryz.ntmps107
  go_upto_region 8 with (at_builtin;refine aI _ rfl _ _ 116 rfl tN i0 _ 4 80 Tryz.underlying116 HI.out.1 HI.out.2.1 HI.out.2.2.1 HI.out.2.2.2 rfl _ _ _ rfl HN.out _ 1 _ rfl HB.out HO.out (by unfold maxLen;omega) (by omega) ?_;intro v2 w2 h2 h2o;obtain⟨g2,c2,rfl,_,_⟩:=(h2.own 0 rfl).form (by omega);clear t0 t1 t2 t3 t4 tf;obtain⟨t0,t1,t2,t3,t4,tf⟩:=mK (h2.blk 1 rfl);have H2:=CM h2;clear h2)
  have hp:=TreeS.push leaf (H2.out.perm ((List.Perm.swap _ _ _).cons _ |>.trans ((List.Perm.swap _ _ _)))).drop
  obtain⟨W,hW,hs2⟩:=hp.hide
  rw [←hW]
  clear hW t0 t1 t2 t3 t4 tf hp H2
  obtain⟨t0,t1,t2,t3,t4,tf⟩:=hs2.tcells
  have ur:=CM hs2
  clear hs2
  go_wp2_with (fail)
  go_ret
  rw [xm.out]
  exact⟨by simp,_,_,_,by rw [List.map_append];rfl,ur.out⟩
 ·have HS:=CM hs
  have hslot:TM.slot ⟨ns.map Prod.snd,fr ++ [i],k⟩ leaf=(i,⟨(ns.map Prod.snd).set i (aS leaf),fr,k⟩):=by simp [TM.slot]
  have xm:=CM hslot
  have hi:=hfr i (by simp)
  rw [List.length_map]at hi
  obtain⟨p,hp⟩:∃p,ns[i]?=some p:=⟨ns[i],List.getElem?_eq_getElem hi⟩
  obtain⟨g,cg,hv,_,_⟩:=hs.nv_some (by omega)
  cases hv
  obtain⟨n0,n1,n2,n3,nf⟩:=hs.node_cells hp
  obtain⟨fg,fcc,hv,hfc1,hfc2⟩:=(Sat.own hs 2 rfl).form (by simp)
  cases hv
  have hlast:=(Sat.own hs 2 rfl).cells fr.length (.int .i64 i) (by rw [List.flatMap_append,List.getElem?_append_right (by rw [cz iZ];omega),cz iZ];simp [Proofs.YtdobimafhbfkhaaGreat.ncells])
  have HP:=CM hp
  have hfree:=hs.set_free (fr':=fr) (fun _ hh=>by
   have:=hh.own_cut (m:=fr.length) (c:=fc) (by simp) (by simp at hfc1;omega) (by omega)
   have e:((fr ++ [i]).flatMap Proofs.YtdobimafhbfkhaaGreat.ncells).take (fr.length*1)=fr.flatMap Proofs.YtdobimafhbfkhaaGreat.ncells:=by
    rw [List.flatMap_append,List.take_append_of_le_length (by rw [cz iZ];omega),List.take_of_length_le (by rw [cz iZ];omega)]
   rw [e]at this
   exact this)
  have HF:=CM hfree
  simp only [List.length_append,List.length_singleton]at *
  unfold maxLen at hfc2
  have hw1:IntKind.i64.wrap ((fr.length:Int)+1-1)=(fr.length:Int):=by rw [show(fr.length:Int)+1-1=fr.length by omega];exact IntWalk.i64_in _ (by omega)
  have hib:(i:Int)<(ns.length:Int):=by omega
  clear hs hslot hp hfr hfree
  go_enter Tryz.func107,Tryz.ntmps107
  go_upto_region 5 with (fail)
  obtain⟨W,hW,hs2⟩:=HF.out.hide
  rw [←hW]
  clear hW t0 t1 t2 t3 t4 tf n0 n1 n2 n3 nf HF hlast
  obtain⟨t0,t1,t2,t3,t4,tf⟩:=hs2.tcells
  obtain⟨n0,n1,n2,n3,nf⟩:=hs2.node_cells HP.out
  have ur:=CM (hs2.reset HP.out leaf)
  clear hs2
  go_wp2_with (fail)
  go_ret
  rw [xm.out]
  exact⟨rfl,_,_,_,by rw [List.map_set];rfl,ur.out⟩
def TM.give (T:TM)(i:Nat):TM:={ T with nodes:=T.nodes.set i (aS false),free:=T.free ++ [i] }
def NodeM.size (m:NodeM):Nat:=if m.leaf then m.keys.length else m.kids.length
def bD (keys:List Val)(k:Val):Nat:=bq keys k+if dI keys k then 1 else 0
theorem dC {B w:World}{D:PH}{t:Nat}{T:TM}{l:List HP}{i:Nat}{m:NodeM}(hi:T.nodes[i]?=some m)(h:TreeA B D w t T l) :
  Calls Tryz.prog 109 #[.pointer (some ⟨t,0,none⟩),.int .i64 i] w fun e w'=>e = .returned (.int .i64 m.size)∧w=w':=by
 obtain⟨nv,fv,ns,hns,hs⟩:=h
 obtain⟨⟨kv,vv,dv⟩,hp⟩:=aH hns hi
 have hlt:=(List.getElem?_eq_some_iff.1 hp).1
 obtain⟨g,c,rfl,_,hcm⟩:=hs.nv_some (by omega)
 obtain⟨t0,t1,t2,t3,t4,tf⟩:=hs.tcells
 obtain⟨n0,n1,n2,n3,nf⟩:=hs.node_cells hp
 obtain⟨ko,kc,hkv⟩:=(hs.focus hp).own_shape
 obtain⟨dO,dc,hdv⟩:=(hs.focus hp).drop.drop.own_shape
 dsimp only at hkv hdv n0 n1 n2 n3
 subst hkv hdv
 unfold maxLen at hcm
 have hib:(i:Int)<(ns.length:Int):=by omega
 cases hl:m.leaf
 ·have uH:=CM (show m.size=m.kids.length by simp [NodeM.size,hl])
  rw [hl]at n0
  clear hs hp hi hns hl
  go_enter Tryz.func109,Tryz.ntmps109
  go_wp2_with (fail)
  go_ret
  exact⟨by rw [uH.out];rfl,rfl⟩
 ·have uH:=CM (show m.size=m.keys.length by simp [NodeM.size,hl])
  rw [hl]at n0
  clear hs hp hi hns hl
  go_enter Tryz.func109,Tryz.ntmps109
  go_wp2_with (fail)
  go_ret
  exact⟨by rw [uH.out];rfl,rfl⟩
theorem iL {B w:World}{D:PH}{t:Nat}{T:TM}{l:List HP}{i:Nat}{m:NodeM}(k:Val)(hi:T.nodes[i]?=some m)(hkb:m.keys.length≤1000000)(h:TreeA B D w t T l) :
  Calls Tryz.prog 102 #[.pointer (some ⟨t,0,none⟩),.int .i64 i,k.v] w fun e w'=>e = .returned (.int .i64 (bD m.keys k))∧Kept (fun _=>False) w w':=by
 obtain⟨nv,fv,ns,hns,hs⟩:=h
 obtain⟨⟨kv,vv,dv⟩,hp⟩:=aH hns hi
 have hlt:=(List.getElem?_eq_some_iff.1 hp).1
 obtain⟨g,c,rfl,_,hcm⟩:=hs.nv_some (by omega)
 unfold maxLen at hcm
 have hk0:Kept (fun _=>False) w (w.alloc (.cells #[.bool k.t,.int .i64 k.n,.string k.s] tV)):=(Kept.refl _ _).alloc _
 have hs1:=hs.kept hk0
 have hb:(w.alloc (.cells #[.bool k.t,.int .i64 k.n,.string k.s] tV)).heap[w.heap.size]?=some (.cells #[.bool k.t,.int .i64 k.n,.string k.s] tV (0,0)):=aw w _
 have hib:(i:Int)<(ns.length:Int):=by omega
 have HB:=CM hb
 have uB:=CM hk0
 have uk:=CM hs1
 have HP:=CM hp
 have hbl:=(kN (il m.keys k) 0 m.keys.length (Nat.zero_le _)).2
 have hbl2:bq m.keys k≤1000000:=Nat.le_trans hbl hkb
 clear hs hk0 hs1 hb hp hi hns hbl
 dsimp only [Val.v]
 go_enter Tryz.func102,Tryz.ntmps102
 go_upto_region 1 with (fail)
 obtain⟨W,hW⟩:∃W,W=w.alloc (.cells #[.bool k.t,.int .i64 k.n,.string k.s] tV):=⟨_,rfl⟩
 rw [←hW]at uB HB uk ⊢
 generalize w.heap.size=bk at HB ⊢
 clear hW
 obtain⟨x0,x1,x2,xf⟩:=aT HB.out
 obtain⟨t0,t1,t2,t3,t4,tf⟩:=uk.out.tcells
 obtain⟨n0,n1,n2,n3,nf⟩:=uk.out.node_cells HP.out
 have hrd:=uk.out.drew.keys_rd HP.out
 obtain⟨ko,kc,hkv⟩:=(uk.out.focus HP.out).own_shape
 dsimp only at hkv n0 n1 n2 n3 hrd
 subst hkv
 have uw:=CM hrd
 clear hrd
 refine af [(0,false,9),(1,false,9),(2,false,9),(3,false,9),(4,false,9),(5,false,9),(6,false,9),(7,false,9),(8,false,9),(9,true,0),(10,false,999),(11,false,999),(12,false,999),(13,false,999),(14,false,999)] (by kernel_rfl) (by kernel_rfl) ?_
 iterate 9 (refine ae rfl rfl (fun K hK=>?_);go_simp;refine hK _ ?_;clear hK K)
 refine ag rfl ?_
 refine au rfl (fun K hK=>?_)
 go_simp
 refine(eG k uw.out hkb).mono ?_
 rintro e1 w1 ⟨rfl,hk1⟩
 have uq:=CM (uB.out.trans (((Kept.refl (fun _=>False) W).drew).trans hk1 (fun _ h=>h.elim)) (fun _ h=>h.elim))
 clear hk1 x0 x1 x2 xf t0 t1 t2 t3 t4 tf n0 n1 n2 n3 nf
 refine hK _ _ ?_
 clear hK K
 refine wpList_nil ?_
 refine And.intro ?_ ?_
 ·go_simp
 iterate 5 (refine ae rfl rfl (fun K hK=>?_);go_simp;refine hK _ ?_;clear hK K)
 refine ah ?_
 cases hbs:dI m.keys k
 ·have yV:=CM (show bD m.keys k=bq m.keys k by simp [bD,hbs])
  clear hbs
  go_wp2_with (fail)
  go_ret
  exact⟨by rw [yV.out];rfl,uq.out⟩
 ·have yV:=CM (show bD m.keys k=bq m.keys k+1 by simp [bD,hbs])
  have hw:IntKind.i64.wrap ((bq m.keys k:Int)+1)=(bq m.keys k:Int)+1:=IntWalk.i64_in _ (by omega)
  clear hbs
  go_wp2_with (fail)
  go_ret
  exact⟨by rw [yV.out];rfl,uq.out⟩
end Go.Proofs.YtdobimafhbfkhaaGreat
