/- The tree: contract of split. -/
import Derived.Test.YtdobimafhbfkhaaGreatOT16
import Derived.Deep.Cut
set_option maxHeartbeats 64000000
namespace Go.Proofs.YtdobimafhbfkhaaGreat
open Go.ChangeShapes Go.WideShapes Go.ChangeAt Go.RowKit
set_option maxRecDepth 100000
set_option linter.unusedSimpArgs false
def NodeM.hi (m:NodeM):NodeM:=if m.leaf then ⟨true,m.keys.drop (m.keys.length / 2),m.vals.drop (m.keys.length / 2),[]⟩else ⟨false,m.keys.drop (m.keys.length / 2+1),[],m.kids.drop (m.keys.length / 2+1)⟩
def NodeM.lo (m:NodeM):NodeM:=if m.leaf then ⟨true,m.keys.take (m.keys.length / 2),m.vals.take (m.keys.length / 2),m.kids⟩else ⟨false,m.keys.take (m.keys.length / 2),m.vals,m.kids.take (m.keys.length / 2+1)⟩
theorem fC {T:TM}{leaf:Bool}{i:Nat}{m:NodeM}(hi:T.nodes[i]?=some m)(hfr:∀x,T.free.getLast?=some x→x<T.nodes.length∧x≠i) :
  (T.slot leaf).1≠i∧(T.slot leaf).2.nodes[i]?=some m∧(T.slot leaf).2.nodes[(T.slot leaf).1]?=some (aS leaf)∧(T.slot leaf).2.nodes.length≤T.nodes.length+1:=by
 have hlt:=(List.getElem?_eq_some_iff.1 hi).1
 unfold TM.slot
 split
 ·rename_i x hx
  obtain⟨h1,h2⟩:=hfr x hx
  exact⟨h2,by simp only [List.getElem?_set_ne h2,hi],by simp [h1],by simp⟩
 ·exact⟨by dsimp only;omega,by simp only [List.getElem?_append_left hlt,hi],by simp,by simp⟩
theorem bM {α:Type}{l:List α}{i j:Nat}{x y:α}(h:i≠j)(hj:l[j]?=some y):(l.set i x)[j]?=some y:=by rw [List.getElem?_set_ne h,hj]
theorem bT {α:Type}{l:List α}{i:Nat}{x y:α}(hj:l[i]?=some y):(l.set i x)[i]?=some x:=List.getElem?_set_self (List.getElem?_eq_some_iff.1 hj).1
theorem bI {w:World}{g n c i x:Nat}{ds:List Nat}(h:Rd w 1 (.slice (some ⟨g,0,none⟩) n c) ds.length (ds.flatMap Proofs.YtdobimafhbfkhaaGreat.ncells))(hi:ds[i]?=some x):w.cell? ⟨g,i,none⟩=some (.int .i64 x):=by
 have hlt:=(List.getElem?_eq_some_iff.1 hi).1
 rcases h.2.2 with ⟨_,_,hv,_,_,_,hcell⟩
 cases hv
 rcases hcell with h0|⟨_,_,hg,hc⟩
 ·omega
 ·cases hg
  have:=hc _ _ (bH iZ ds i x hi 0 _ rfl)
  simpa using this
theorem hF {w:World}{g o N cap h:Nat}{vals:List VT}{x:VT}(hrd:Rd w 1 (.slice (some ⟨g,o,none⟩) N cap) N (vals.flatMap dE))(hx:vals[h]?=some x) :
  w.cell? ⟨g,o+h,none⟩=some (.slice x.ro x.rn x.rc):=by
 have hlt:=(List.getElem?_eq_some_iff.1 hx).1
 rcases hrd.2.2 with ⟨_,_,hv,_,_,_,hcell⟩
 cases hv
 rcases hcell with h0|⟨_,_,hg,hc⟩
 ·have:=hrd.1
  rw [cz jT]at this
  omega
 cases hg
 have:=hc _ _ (bH jT vals h _ hx 0 _ rfl)
 simpa using this
theorem aE {w:World}{e:TypeId}{z n:Nat}{v:Value}{xs:List Value}(h:Own w e z v n xs)(hn:0<n):∃g c,v = .slice (some ⟨g,0,none⟩) n c∧n≤c∧c≤9223372036854775807:=by
 obtain⟨g,c,h1,h2,h3⟩:=h.form hn
 unfold maxLen at h3
 exact⟨g,c,h1,h2,by omega⟩
def TM.spl (T:TM)(nw i kid c:Nat)(mi mk:NodeM)(sep:Val):TM :=
 { T with nodes:=((T.nodes.set nw mk.hi).set kid mk.lo).set i { mi with keys:=aU mi.keys c sep,kids:=aU mi.kids (c+1) nw } }
theorem pY {B w:World}{D:PH}{t:Nat}{T:TM}{l:List HP}{i c kid:Nat}{mi mk:NodeM}{nw:Nat}{T1:TM}{sep:Val}(hsl:T.slot mk.leaf=(nw,T1))(hsep:mk.keys[mk.keys.length / 2]?=some sep)(hi:T.nodes[i]?=some mi)(hc:mi.kids[c]?=some kid)(hk:T.nodes[kid]?=some mk)(hik:i≠kid)(hleaf:mk.leaf=true)
  (hfr:∀x,T.free.getLast?=some x→x<T.nodes.length∧x≠i∧x≠kid) (hbig:T.nodes.length≤1000000) (hfb:T.free.length≤1000000)
  (hkl:0<mk.keys.length) (hkb:mk.keys.length≤1000) (hvl:mk.vals.length=mk.keys.length) (hil:c≤mi.keys.length) (hil2:mi.kids.length=mi.keys.length+1) (hib:mi.keys.length≤1000) (h:TreeA B D w t T l) :
  Calls Tryz.prog 110 #[.pointer (some ⟨t,0,none⟩),.int .i64 i,.int .i64 c] w fun e w'=>e = .returned (.tuple #[]) ∧
   TreeA B D w' t (T1.spl nw i kid c mi mk sep) l:=by
 have hA:=h
 have hkc0:c+1≤mi.kids.length:=by omega
 have hkc1':mi.kids.length≤1001:=by omega
 clear hil2
 obtain⟨nv,fv,ns,hns,hs⟩:=h
 obtain⟨⟨ikv,ivv,idv⟩,hpi⟩:=aH hns hi
 obtain⟨⟨kkv,kvv,kdv⟩,hpk⟩:=aH hns hk
 have hlti:=(List.getElem?_eq_some_iff.1 hpi).1
 have hltk:=(List.getElem?_eq_some_iff.1 hpk).1
 have hlen:T.nodes.length=ns.length:=by rw [←hns,List.length_map]
 obtain⟨g,cn,rfl,_,hcm⟩:=hs.nv_some (by omega)
 obtain⟨t0,t1,t2,t3,t4,tf⟩:=hs.tcells
 obtain⟨n0,n1,n2,n3,nf⟩:=hs.node_cells hpi
 obtain⟨k0,k1,k2,k3,kf⟩:=hs.node_cells hpk
 have hkr:=hs.kids_rd hpi
 have hclt:=(List.getElem?_eq_some_iff.1 hc).1
 obtain⟨dg,dc,hdv,_,hdcm⟩:=aE (Sat.own (hs.focus hpi) 2 rfl) (by show 0<mi.kids.length;omega)
 dsimp only at hdv n0 n1 n2 n3 k0 k1 k2 k3 hkr
 subst hdv
 have hcell:=bI hkr hc
 rw [hleaf]at k0
 unfold maxLen at hcm
 have hib1:(i:Int)<(ns.length:Int):=by omega
 have hkb1:(kid:Int)<(ns.length:Int):=by omega
 have hcb1:(c:Int)<(mi.kids.length:Int):=by omega
 have xm:=CM hsl
 have hso:=j3 true (fun x hx=>(hfr x hx).1) hbig hfb hA
 rw [←hleaf,hsl]at hso
 rw [hleaf]at hso
 have wF:=CM hso
 have yY:=CM hsep
 have HI:=CM hi
 have HK:=CM hk
 have HC:=CM hc
 have xn:=CM hfr
 have uK:=CM hleaf
 have yF:=CM hvl
 clear hs hA hkr hi hk hc hpi hpk hns hfr hleaf hlen hvl hso hsl hsep
 go_enter Tryz.func110,Tryz.ntmps110
 go_upto_region 2 with ((go_at_call 107;refine wF.out.mono ?_;rintro e1 w1 ⟨rfl,hs1⟩;have zS:=CM hs1;clear hs1))
 obtain⟨nv1,fv1,ns1,hns1,hs1⟩:=zS.out
 have fi:=fC (leaf:=mk.leaf) HI.out (fun x hx=>⟨(xn.out x hx).1,(xn.out x hx).2.1⟩)
 have fk:=fC (leaf:=mk.leaf) HK.out (fun x hx=>⟨(xn.out x hx).1,(xn.out x hx).2.2⟩)
 rw [xm.out]at fi fk
 dsimp only at fi fk
 clear zS wF HI HK xn t0 t1 t2 t3 t4 tf n0 n1 n2 n3 nf k0 k1 k2 k3 kf hcell hib1 hkb1
 obtain⟨⟨ikv,ivv,idv⟩,hpi⟩:=aH hns1 fi.2.1
 obtain⟨⟨kkv,kvv,kdv⟩,hpk⟩:=aH hns1 fk.2.1
 obtain⟨⟨okv,ovv,odv⟩,hpo⟩:=aH hns1 fi.2.2.1
 have hlti:=(List.getElem?_eq_some_iff.1 hpi).1
 have hltk:=(List.getElem?_eq_some_iff.1 hpk).1
 have hlto:=(List.getElem?_eq_some_iff.1 hpo).1
 have hlen:T1.nodes.length=ns1.length:=by rw [←hns1,List.length_map]
 have hlb:=fi.2.2.2
 have hoi:=fi.1
 have hok:=fk.1
 obtain⟨g,cn,rfl,_,hcm⟩:=hs1.nv_some (by omega)
 unfold maxLen at hcm
 clear fi fk hlen
 generalize hN:ns1.length=N at *
 have hib1:(i:Int)<(N:Int):=by omega
 have hkb1:(kid:Int)<(N:Int):=by omega
 have hob1:(nw:Int)<(N:Int):=by omega
 obtain⟨kg,kc,hkv,hkc1,hkc2⟩:=aE (Sat.own (hs1.focus hpk) 0 rfl) (by show 0<mk.keys.length;omega)
 obtain⟨vg,vc,hvv,hvc1,hvc2⟩:=aE (Sat.own (hs1.focus hpk) 1 rfl) (by show 0<mk.vals.length;rw [yF.out];omega)
 dsimp only at hkv hvv
 subst hkv hvv
 have hsep:=yY.out
 obtain⟨L,hL⟩:∃L,mk.keys.length=L:=⟨_,rfl⟩
 have HL:=CM hL
 have hvl:=yF.out
 rw [hL]at hkc1 hsep hkb hkl hvl hpk
 rw [hvl]at hvc1 hpk
 obtain⟨M,hM⟩:∃M,L / 2=M:=⟨_,rfl⟩
 have hq:(L:Int) / 2=(M:Int):=by omega
 rw [hM]at hsep
 have hml:M<L:=by omega
 have hrk0:=hs1.keys_rd hpk
 dsimp only at hrk0
 rw [hL]at hrk0
 obtain⟨s0,s1,s2⟩:=aM hrk0 hsep
 clear hrk0
 simp only [Nat.zero_add]at s0 s1 s2
 obtain⟨t0,t1,t2,t3,t4,tf⟩:=hs1.tcells
 obtain⟨k0,k1,k2,k3,kf⟩:=hs1.node_cells hpk
 dsimp only at k0 k1 k2 k3
 rw [uK.out]at k0
 have hmk:(M:Int)<(L:Int):=by omega
 have uk:=CM hs1
 have zT:=CM hpi
 have xM:=CM hpk
 have xe:=CM hpo
 have HM:=CM hM
 have hkcM:¬(kc=M):=by omega
 have hvcM:¬(vc=M):=by omega
 have hML:M≤L:=by omega
 have hMLi:(M:Int)≤(L:Int):=by omega
 have hMk:(M:Int)≤(kc:Int):=by omega
 have hMv:(M:Int)≤(vc:Int):=by omega
 obtain⟨yk,hyk⟩:∃yk,mk.keys.drop M=yk:=⟨_,rfl⟩
 obtain⟨yv,hyv⟩:∃yv,mk.vals.drop M=yv:=⟨_,rfl⟩
 have yl:=CM hyk
 have wU:=CM hyv
 have hykl:yk.length≤1000:=by rw [←hyk,List.length_drop,hL];omega
 have hyvl:yv.length≤1000:=by rw [←hyv,List.length_drop,hvl];omega
 have zU:=CM (show ∀u∈yk.flatMap Val.cells,u.oneCell'=true from fun u hu=>by obtain⟨x,_,hx⟩:=List.mem_flatMap.1 hu;exact Val.one x u hx)
 have zV:=CM (show ∀u∈yv.flatMap dE,u.oneCell'=true from fun u hu=>by obtain⟨x,_,hx⟩:=List.mem_flatMap.1 hu;exact vone x u hx)
 clear hs1 hpi hpk hpo hM hsep hL hvl hyk hyv
 refine af [(0,false,999),(1,false,999),(2,false,999),(3,false,999),(4,false,999),(5,false,999),(6,false,999),(7,false,999),(8,false,999),(9,false,999),(10,false,999),(11,false,999),(12,false,999),(13,false,999)] (by kernel_rfl) (by kernel_rfl) ?_
 iterate 14 (refine ae rfl rfl (fun K hK=>?_);go_simp;refine hK _ ?_;clear hK K)
 refine ah ?_
 go_upto_region 5 with (fail)
 have hs2:=(uk.out.alloc #[.bool sep.t,.int .i64 sep.n,.string sep.s] tV).drew
 obtain⟨W2,hW2,hs2⟩:=hs2.hide
 rw [←hW2]
 generalize w1.heap.size=bs at hs2 ⊢
 clear hW2 uk t0 t1 t2 t3 t4 tf k0 k1 k2 k3 kf s0 s1 s2
 obtain⟨k0,k1,k2,k3,kf⟩:=hs2.node_cells xM.out
 have hrk:=hs2.keys_rd xM.out
 dsimp only at k0 k1 k2 k3 hrk
 rw [uK.out]at k0
 have hrk2:=jV (m:=M) (off:=M*3) Val.len hrk (by omega) (fun _=>rfl)
 rw [yl.out]at hrk2
 have zW:=CM hrk2
 have ur:=CM hs2
 clear hs2 hrk hrk2
 go_upto_region 7 with ((go_at_call 124;refine(lP zW.out zU.out (by omega) ur.out).mono ?_;rintro e3 w3 ⟨kv3,rfl,hs3⟩;obtain⟨ko3,kc3,rfl⟩:=hs3.own_shape;obtain⟨o0,o1,o2,o3,of⟩:=TreeS.node_cells (Sat.drop hs3) xe.out;have ut:=CM hs3;clear hs3))
 have hs4:=TreeS.put_keys xe.out ut.out
 obtain⟨W4,hW4,hs4⟩:=hs4.hide
 rw [←hW4]
 have hpo4:=bT (x:=((⟨.slice ko3 yk.length kc3,ovv,odv⟩,{ aS mk.leaf with keys:=yk }):NP)) xe.out
 have hpk4:=bM (x:=((⟨.slice ko3 yk.length kc3,ovv,odv⟩,{ aS mk.leaf with keys:=yk }):NP)) hok xM.out
 have hpi4:=bM (x:=((⟨.slice ko3 yk.length kc3,ovv,odv⟩,{ aS mk.leaf with keys:=yk }):NP)) hoi zT.out
 have hmap4:(ns1.set nw ((⟨.slice ko3 yk.length kc3,ovv,odv⟩,{ aS mk.leaf with keys:=yk }):NP)).map Prod.snd=T1.nodes.set nw { aS mk.leaf with keys:=yk }:=by rw [List.map_set,hns1]
 generalize ns1.set nw ((⟨.slice ko3 yk.length kc3,ovv,odv⟩,{ aS mk.leaf with keys:=yk }):NP)=ns4 at hs4 hpo4 hpk4 hpi4 hmap4
 clear hW4 ut ur xe xM zT k0 k1 k2 k3 kf o0 o1 o2 o3 of zW zU
 obtain⟨k0,k1,k2,k3,kf⟩:=hs4.node_cells hpk4
 have hrv:=hs4.vals_rd hpk4
 dsimp only at k0 k1 k2 k3 hrv
 have hrv2:=jV (m:=M) (off:=M) jT hrv (by omega) (fun _=>by omega)
 rw [wU.out]at hrv2
 have ym:=CM hrv2
 have uy:=CM hs4
 have wi:=CM hpo4
 have xN:=CM hpk4
 have xO:=CM hpi4
 have wG:=CM hmap4
 clear hs4 hrv hrv2 hpo4 hpk4 hpi4 hmap4
 go_upto_region 8 with ((go_at_call 125;refine(rM ym.out zV.out (by omega) uy.out).mono ?_;rintro e5 w5 ⟨vv5,rfl,hs5⟩;obtain⟨vo5,vc5,rfl⟩:=hs5.own_shape;obtain⟨o0,o1,o2,o3,of⟩:=TreeS.node_cells (Sat.drop hs5) wi.out;have uA:=CM hs5;clear hs5))
 have hs6:=TreeS.put_vals wi.out uA.out
 obtain⟨W6,hW6,hs6⟩:=hs6.hide
 rw [←hW6]
 have hpo6:=bT (x:=((⟨.slice ko3 yk.length kc3,.slice vo5 yv.length vc5,odv⟩,{ aS mk.leaf with keys:=yk,vals:=yv }):NP)) wi.out
 have hpk6:=bM (x:=((⟨.slice ko3 yk.length kc3,.slice vo5 yv.length vc5,odv⟩,{ aS mk.leaf with keys:=yk,vals:=yv }):NP)) hok xN.out
 have hpi6:=bM (x:=((⟨.slice ko3 yk.length kc3,.slice vo5 yv.length vc5,odv⟩,{ aS mk.leaf with keys:=yk,vals:=yv }):NP)) hoi xO.out
 have hmap6:(ns4.set nw ((⟨.slice ko3 yk.length kc3,.slice vo5 yv.length vc5,odv⟩,{ aS mk.leaf with keys:=yk,vals:=yv }):NP)).map Prod.snd=T1.nodes.set nw { aS mk.leaf with keys:=yk,vals:=yv }:=by rw [List.map_set,wG.out,List.set_set]
 generalize ns4.set nw ((⟨.slice ko3 yk.length kc3,.slice vo5 yv.length vc5,odv⟩,{ aS mk.leaf with keys:=yk,vals:=yv }):NP)=ns6 at hs6 hpo6 hpk6 hpi6 hmap6
 clear hW6 uA uy wi xN xO wG k0 k1 k2 k3 kf o0 o1 o2 o3 of ym zV
 obtain⟨k0,k1,k2,k3,kf⟩:=hs6.node_cells hpk6
 dsimp only at k0 k1 k2 k3
 have hs7:=hs6.cut_vals (m:=M) hpk6 rfl (by show M≤mk.vals.length;rw [yF.out,HL.out];exact hML)
 have vb:=CM hs7
 have yZ:=CM hpo6
 have xP:=CM hpk6
 have xQ:=CM hpi6
 have vy:=CM hmap6
 clear hs6 hs7 hpo6 hpk6 hpi6 hmap6
 have hMM:(M:Int)≤(M:Int):=Int.le_refl _
 go_upto_region 12 with (fail)
 obtain⟨W7,hW7,hs7⟩:=vb.out.hide
 rw [←hW7]
 have hpk7:=bT (x:=((⟨.slice (some ⟨kg,0,none⟩) L kc,.slice (some ⟨vg,0,none⟩) M M,kdv⟩,{ mk with vals:=mk.vals.take M }):NP)) xP.out
 have hpi7:=bM (x:=((⟨.slice (some ⟨kg,0,none⟩) L kc,.slice (some ⟨vg,0,none⟩) M M,kdv⟩,{ mk with vals:=mk.vals.take M }):NP)) (Ne.symm hik) xQ.out
 have hmap7:(ns6.set kid ((⟨.slice (some ⟨kg,0,none⟩) L kc,.slice (some ⟨vg,0,none⟩) M M,kdv⟩,{ mk with vals:=mk.vals.take M }):NP)).map Prod.snd=(T1.nodes.set nw { aS mk.leaf with keys:=yk,vals:=yv }).set kid { mk with vals:=mk.vals.take M }:=by rw [List.map_set,vy.out]
 generalize ns6.set kid ((⟨.slice (some ⟨kg,0,none⟩) L kc,.slice (some ⟨vg,0,none⟩) M M,kdv⟩,{ mk with vals:=mk.vals.take M }):NP)=ns7 at hs7 hpk7 hpi7 hmap7
 clear hW7 vb yZ xP xQ vy k0 k1 k2 k3 kf
 obtain⟨k0,k1,k2,k3,kf⟩:=hs7.node_cells hpk7
 dsimp only at k0 k1 k2 k3
 have hs8:=hs7.cut_keys (m:=M) hpk7 rfl (by show M≤mk.keys.length;rw [HL.out];exact hML)
 have vB:=CM hs8
 have za:=CM hpk7
 have xR:=CM hpi7
 have wH:=CM hmap7
 clear hs7 hs8 hpk7 hpi7 hmap7
 go_upto_region 13 with (fail)
 obtain⟨W8,hW8,hs8⟩:=vB.out.hide
 rw [←hW8]
 have hpi8:=bM (x:=((⟨.slice (some ⟨kg,0,none⟩) M M,.slice (some ⟨vg,0,none⟩) M M,kdv⟩,{ mk with vals:=mk.vals.take M,keys:=mk.keys.take M }):NP)) (Ne.symm hik) xR.out
 have hmap8:(ns7.set kid ((⟨.slice (some ⟨kg,0,none⟩) M M,.slice (some ⟨vg,0,none⟩) M M,kdv⟩,{ mk with vals:=mk.vals.take M,keys:=mk.keys.take M }):NP)).map Prod.snd=(T1.nodes.set nw { aS mk.leaf with keys:=yk,vals:=yv }).set kid { mk with vals:=mk.vals.take M,keys:=mk.keys.take M }:=by rw [List.map_set,wH.out,List.set_set]
 generalize ns7.set kid ((⟨.slice (some ⟨kg,0,none⟩) M M,.slice (some ⟨vg,0,none⟩) M M,kdv⟩,{ mk with vals:=mk.vals.take M,keys:=mk.keys.take M }):NP)=ns8 at hs8 hpi8 hmap8
 clear hW8 vB za xR wH k0 k1 k2 k3 kf
 obtain⟨t0,t1,t2,t3,t4,tf⟩:=hs8.tcells
 obtain⟨n0,n1,n2,n3,nf⟩:=hs8.node_cells hpi8
 dsimp only at n0 n1 n2 n3
 obtain⟨iko,ikc,hikv⟩:=(hs8.focus hpi8).own_shape
 dsimp only at hikv
 subst hikv
 obtain⟨s0,s1,s2,sf⟩:=aT (Sat.blk hs8 4 rfl)
 have vB:=CM hs8
 have vC:=CM hpi8
 have wI:=CM hmap8
 clear hs8 hpi8 hmap8
 go_upto_region 14 with (fail)
 refine af [(0,false,11),(1,false,8),(2,false,8),(3,false,8),(4,false,8),(5,false,8),(6,false,7),(7,true,0),(8,true,0),(9,false,11),(10,false,11),(11,true,0)] (by kernel_rfl) (by kernel_rfl) ?_
 iterate 7 (refine ae rfl rfl (fun K hK=>?_);go_simp;refine hK _ ?_;clear hK K)
 refine ag rfl ?_
 refine wpList_plain rfl (fun K hK=>?_)
 go_simp
 refine hK _ _ ?_
 clear hK K
 refine wpList_nil ?_
 have hs9:=(vB.out.alloc #[.bool sep.t,.int .i64 sep.n,.string sep.s] tV).drew
 obtain⟨W9,hW9,hs9⟩:=hs9.hide
 rw [←hW9]
 generalize W8.heap.size=bx at hs9 ⊢
 clear hW9 vB t0 t1 t2 t3 t4 tf n0 n1 n2 n3 nf s0 s1 s2 sf
 obtain⟨n0,n1,n2,n3,nf⟩:=hs9.node_cells vC.out
 dsimp only at n0 n1 n2 n3
 obtain⟨s0,s1,s2,sf⟩:=aT (Sat.blk hs9 5 rfl)
 have vt:=CM (hs9.for_keys vC.out)
 clear hs9
 refine And.intro ?_ ?_
 ·go_simp
 refine ag rfl ?_
 refine au rfl (fun K hK=>?_)
 go_simp
 refine(fY (i:=c) hil (by rfl) (Val.one sep) bx (by omega) vt.out).mono ?_
 rintro e10 w10 ⟨kv10,rfl,hs10⟩
 have hs10':=hs10.swap.drop
 dsimp only at hs10'
 rw [dd Val.len,←bO mi.keys c sep]at hs10'
 obtain⟨kk,hkk⟩:∃kk,aU mi.keys c sep=kk:=⟨_,rfl⟩
 rw [hkk]at hs10'
 obtain⟨ko10,kc10,rfl⟩:=hs10'.own_shape
 clear n0 n1 n2 n3 nf s0 s1 s2 sf vt hs10
 obtain⟨n0,n1,n2,n3,nf⟩:=bY (hs10'.own 4 rfl) vC.out
 have vP:=CM hkk
 have wJ:=CM hs10'
 dsimp only at n0 n1 n2 n3
 clear hs10' hkk
 refine hK _ _ ?_
 clear hK K
 refine wpList_nil ?_
 refine And.intro ?_ ?_
 ·go_simp
 iterate 2 (refine ae rfl rfl (fun K hK=>?_);go_simp;refine hK _ ?_;clear hK K)
 refine ag rfl ?_
 refine wpList_plain rfl (fun K hK=>?_)
 go_simp
 refine hK _ _ ?_
 clear hK K
 refine wpList_nil ?_
 refine And.intro ?_ ?_
 ·go_simp
 refine ah ?_
 go_upto_region 15 with (fail)
 have hq11:=TreeS.set_keys vC.out wJ.out
 obtain⟨W11,hW11,hs11⟩:=hq11.hide
 rw [←hW11]
 clear hq11
 have hpi11:=bT (x:=((⟨.slice ko10 kk.length kc10,ivv,idv⟩,{ mi with keys:=kk }):NP)) vC.out
 have hmap11:(ns8.set i ((⟨.slice ko10 kk.length kc10,ivv,idv⟩,{ mi with keys:=kk }):NP)).map Prod.snd=((T1.nodes.set nw { aS mk.leaf with keys:=yk,vals:=yv }).set kid { mk with vals:=mk.vals.take M,keys:=mk.keys.take M }).set i { mi with keys:=kk }:=by rw [List.map_set,wI.out]
 dsimp only at hs11
 generalize ns8.set i ((⟨.slice ko10 kk.length kc10,ivv,idv⟩,{ mi with keys:=kk }):NP)=ns11 at hs11 hpi11 hmap11
 clear hW11 wJ vC wI n0 n1 n2 n3 nf
 obtain⟨n0,n1,n2,n3,nf⟩:=hs11.node_cells hpi11
 dsimp only at n0 n1 n2 n3
 obtain⟨ido,idc,hidv⟩:=(hs11.focus hpi11).drop.drop.own_shape
 dsimp only at hidv
 subst hidv
 have hs12:=hs11.alloc #[.int .i64 nw] tI
 have xp:=CM (hs12.for_kids hpi11)
 have wK:=CM hpi11
 have wV:=CM hmap11
 have hwc:IntKind.i64.wrap ((c:Int)+1)=(c:Int)+1:=IntWalk.i64_in _ (by omega)
 have hcn:((c:Int)+1)=((c+1:Nat):Int):=rfl
 have xD:=CM hcn
 have wS:=CM (show ∀u∈[Value.int .i64 nw],u.oneCell'=true by intro u hu;simp at hu;subst hu;rfl)
 clear hs11 hs12 hpi11 hmap11 hcn
 go_wp2_with ((go_at_call 127;rw [xD.out];refine(iu (i:=c+1) (xc:=[.int .i64 nw]) (by show c+1≤mi.kids.length;omega) (by rfl) wS.out _ (by show(mi.kids.length+1)*8≤_;omega) xp.out).mono ?_;rintro e13 w13 ⟨dv13,rfl,hs13⟩;have hs13':=hs13.swap.drop;dsimp only at hs13';obtain⟨do13,dc13,rfl⟩:=hs13'.own_shape;clear n0 n1 n2 n3 nf;obtain⟨n0,n1,n2,n3,nf⟩:=bY (hs13'.own 4 rfl) wK.out;dsimp only at n0 n1 n2 n3;have zb:=CM hs13';clear hs13 hs13'))
 go_end0
 have e:=dd iZ mi.kids (c+1) nw
 have h14:=zb.out
 have h14':Sat B D w13 (bi (.slice do13 (mi.kids.length+1) dc13) (aU mi.kids (c+1) nw)::da (.slice ko10 kk.length kc10) kk::cY ivv mi.vals::blk t (aL (.slice (some ⟨g,0,none⟩) N cn) fv1 T1.k) tT::aF tN 4 (.slice (some ⟨g,0,none⟩) N cn) ns11.length (ns11.flatMap aG)::bi fv1 T1.free::be ((ns11.map bS).eraseIdx i)::blk bs #[.bool sep.t,.int .i64 sep.n,.string sep.s] tV::l):=by
  unfold bi
  rw [bO,←e]
  exact h14
 have hs15:=TreeS.set_kids wK.out h14'
 refine⟨rfl,_,_,_,?_,hs15.drop⟩
 have ea:({ aS mk.leaf with keys:=yk,vals:=yv }:NodeM)=mk.hi:=by
  unfold NodeM.hi aS
  rw [uK.out,←yl.out,←wU.out,HL.out,HM.out]
  rfl
 have eb:({ mk with vals:=mk.vals.take M,keys:=mk.keys.take M }:NodeM)=mk.lo:=by
  unfold NodeM.lo
  rw [uK.out,HL.out,HM.out]
  rfl
 rw [List.map_set,wV.out,List.set_set,ea,eb,←vP.out]
 rfl
end Go.Proofs.YtdobimafhbfkhaaGreat
