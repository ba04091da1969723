/- The tree: contract of through, at any node, and what follows. -/
import Derived.Test.YtdobimafhbfkhaaGreatOY15
import Derived.Test.YtdobimafhbfkhaaGreatOY12
set_option maxHeartbeats 64000000
namespace Go.Proofs.YtdobimafhbfkhaaGreat
open Go.ChangeShapes Go.WideShapes Go.ChangeAt Go.RowKit
set_option maxRecDepth 100000
set_option linter.unusedSimpArgs false
inductive TM.Walks (T:TM)(s:Spn):Nat→List (Val×VT)→Prop
 | leaf {i:Nat} {m:NodeM} (hi:T.nodes[i]?=some m) (hl:m.leaf=true) (hv:m.vals.length=m.keys.length) (hkb:m.keys.length≤1000):TM.Walks T s i (m.tell s m.keys.length)
 | inner {i:Nat} {m:NodeM} (hi:T.nodes[i]?=some m) (hl:m.leaf=false) (hkb:m.keys.length≤1000) (hdl:m.kids.length=m.keys.length+1) (n:Nat) (f:Nat→List (Val×VT)) (hn:m.start s+n≤m.kids.length)
   (hgo:∀j,j<n→0<j→m.past s (m.start s+j-1)=false) (hstop:m.start s+n=m.kids.length∨(0<n∧m.past s (m.start s+n-1)=true))
   (ih:∀j kid,j<n→m.kids[m.start s+j]?=some kid→TM.Walks T s kid (f j)):TM.Walks T s i (tells f n)
theorem ru {n₀:Nat}{Ow:World→Nat→Prop}(hO:Owner n₀ Ow){t l:Nat}{V:List (Val×VT)→Prop}{T:TM}{s:Spn}{J Jx:List (Val×VT)→World→Prop}
  (hJ:∀pre W W',J pre W→Kept (fun _=>False) W W'→J pre W')
  (hY:∀n pre x W,J pre W→V (pre ++ [x])→YieldAt Fence.wide n Tryz.prog l #[x.1.v,x.2.v] W fun e W'=>(e = .returned (.bool true)∧J (pre ++ [x]) W'∧KpO Ow W W')∨(e = .returned (.bool false)∧Jx (pre ++ [x]) W'))
  {i:Nat} {q:List (Val×VT)} (hw:T.Walks s i q):∀(D:PH),TreeP D t T→∀(pre:List (Val×VT)) (W:World),J pre W→(∀p,p <+: pre++q→V p)→ItOk n₀ Ow D W →
  Calls Tryz.prog 85 #[.pointer (some ⟨t,0,none⟩),.int .i64 i,s.v,.func (.yield l) #[] #[]] W fun e W' =>
   (e = .returned (.bool true)∧J (pre++q) W'∧ItOk n₀ Ow D W')∨(e = .returned (.bool false)∧∃p,p <+: q∧Jx (pre++p) W'):=by
 induction hw with
 | leaf hi hl hv hkb=>intro D hT pre W hj hN hit;exact pr hO hJ hY hi hl hv hkb hT pre W hj hN hit
 | inner hi hl hkb hdl n f hn hgo hstop _ ih =>
  intro D hT pre W hj hN hit;cases hlo:s.hasLo
  ·exact oI hO hJ hi hl hkb hdl hlo n f hn hgo hstop ih hT pre W hj hN hit
  ·exact rm hO hJ hi hl hkb hdl hlo n f hn hgo hstop ih hT pre W hj hN hit
theorem rK {B w:World}{D:PH}{t:Nat}{T:TM}{l:List HP}{i c kid:Nat}{mi mk:NodeM}{nw:Nat}{T1:TM}{sep:Val}(hsl:T.slot mk.leaf=(nw,T1))(hsep:mk.keys[mk.keys.length / 2]?=some sep)(hi:T.nodes[i]?=some mi)(hc:mi.kids[c]?=some kid)(hk:T.nodes[kid]?=some mk)(hik:i≠kid)(hleaf:mk.leaf=false)
  (hfr:∀x,T.free.getLast?=some x→x<T.nodes.length∧x≠i∧x≠kid) (hbig:T.nodes.length≤1000000) (hfb:T.free.length≤1000000)
  (hkl:3≤mk.keys.length) (hkb:mk.keys.length≤1000) (hvl:mk.kids.length=mk.keys.length+1) (hil:c≤mi.keys.length) (hil2:mi.kids.length=mi.keys.length+1) (hib:mi.keys.length≤1000) (h:TreeA B D w t T l) :
  Calls Tryz.prog 110 #[.pointer (some ⟨t,0,none⟩),.int .i64 i,.int .i64 c] w fun e w'=>e = .returned (.tuple #[]) ∧
   TreeA B D w' t (T1.spl nw i kid c mi mk sep) l:=by
 have hA:=h;have hkc0:c+1≤mi.kids.length:=by omega
 have hkc1':mi.kids.length≤1001:=by omega
 clear hil2;obtain⟨nv,fv,ns,hns,hs⟩:=h;obtain⟨⟨ikv,ivv,idv⟩,hpi⟩:=aK hns hi;obtain⟨⟨kkv,kvv,kdv⟩,hpk⟩:=aK hns hk;have hlti:=(FO.1 hpi).1;have hltk:=(FO.1 hpk).1;have hlen:T.nodes.length=ns.length:=by rw [←hns,FZ]
 obtain⟨g,cn,rfl,_,hcm⟩:=hs.nv_some (by omega);obtain⟨t0,t1,t2,t3,t4,tf⟩:=hs.tcells;obtain⟨n0,n1,n2,n3,nf⟩:=hs.node_cells hpi;obtain⟨k0,k1,k2,k3,kf⟩:=hs.node_cells hpk;have hkr:=hs.kids_rd hpi;have hclt:=(FO.1 hc).1;obtain⟨dg,dc,hdv,_,hdcm⟩:=aF (Sat.own (hs.focus hpi) 2 rfl) (by show 0<mi.kids.length;omega);dsimp only at hdv n0 n1 n2 n3 k0 k1 k2 k3 hkr;subst hdv;have hcell:=bD hkr hc;rw [hleaf]at k0;unfold maxLen at hcm;have hib1:(i:Int)<(ns.length:Int):=by omega
 have hkb1:(kid:Int)<(ns.length:Int):=by omega
 have hcb1:(c:Int)<(mi.kids.length:Int):=by omega
 have Aj:=FH hsl;have hso:=lu false (fun x hx=>(hfr x hx).1) hbig hfb hA;rw [←hleaf,hsl]at hso;rw [hleaf]at hso;have zG:=FH hso;have BO:=FH hsep;have HI:=FH hi;have HK:=FH hk;have HC:=FH hc;have ya:=FH hfr;have xi:=FH hleaf;have Bq:=FH hvl;clear hs hA hkr hi hk hc hpi hpk hns hfr hleaf hlen hvl hso hsl hsep;go_enter Tryz.func110,Tryz.ntmps110;go_upto_region 2 with ((go_at_call 107;refine zG.out.mono ?_;rintro e1 w1 ⟨rfl,hs1⟩;have Ak:=FH hs1;clear hs1))
 obtain⟨nv1,fv1,ns1,hns1,hs1⟩:=Ak.out;have fi:=ie (leaf:=mk.leaf) HI.out (fun x hx=>⟨(ya.out x hx).1,(ya.out x hx).2.1⟩);have fk:=ie (leaf:=mk.leaf) HK.out (fun x hx=>⟨(ya.out x hx).1,(ya.out x hx).2.2⟩);rw [Aj.out]at fi fk;dsimp only at fi fk;clear Ak zG HI HK ya t0 t1 t2 t3 t4 tf n0 n1 n2 n3 nf k0 k1 k2 k3 kf hcell hib1 hkb1;obtain⟨⟨ikv,ivv,idv⟩,hpi⟩:=aK hns1 fi.2.1;obtain⟨⟨kkv,kvv,kdv⟩,hpk⟩:=aK hns1 fk.2.1;obtain⟨⟨okv,ovv,odv⟩,hpo⟩:=aK hns1 fi.2.2.1;have hlti:=(FO.1 hpi).1;have hltk:=(FO.1 hpk).1;have hlto:=(FO.1 hpo).1;have hlen:T1.nodes.length=ns1.length:=by rw [←hns1,FZ]
 have hlb:=fi.2.2.2;have hoi:=fi.1;have hok:=fk.1;obtain⟨g,cn,rfl,_,hcm⟩:=hs1.nv_some (by omega);unfold maxLen at hcm;clear fi fk hlen;generalize hN:ns1.length=N at *;have hib1:(i:Int)<(N:Int):=by omega
 have hkb1:(kid:Int)<(N:Int):=by omega
 have hob1:(nw:Int)<(N:Int):=by omega
 obtain⟨kg,kc,hkv,hkc1,hkc2⟩:=aF (Sat.own (hs1.focus hpk) 0 rfl) (by show 0<mk.keys.length;omega);obtain⟨vg,vc,hvv,hvc1,hvc2⟩:=aF (Sat.own (hs1.focus hpk) 2 rfl) (by show 0<mk.kids.length;rw [Bq.out];omega);dsimp only at hkv hvv;subst hkv hvv;have hsep:=BO.out;obtain⟨L,hL⟩:∃L,mk.keys.length=L:=⟨_,rfl⟩;have HL:=FH hL;have hvl:=Bq.out;rw [hL]at hkc1 hsep hkb hkl hvl hpk;obtain⟨L2,hL2⟩:∃L2,mk.kids.length=L2:=⟨_,rfl⟩;have yl:=FH hL2;rw [hL2]at hvl hvc1 hpk;have hL2a:L2≤L+1:=by omega
 have hL2b:L+1≤L2:=by omega
 obtain⟨M,hM⟩:∃M,L / 2=M:=⟨_,rfl⟩;have hq:(L:Int) / 2=(M:Int):=by omega
 rw [hM]at hsep;have hml:M<L:=by omega
 have hrk0:=hs1.keys_rd hpk;dsimp only at hrk0;rw [hL]at hrk0;obtain⟨s0,s1,s2⟩:=aE hrk0 hsep;clear hrk0;simp only [Nat.zero_add]at s0 s1 s2;obtain⟨t0,t1,t2,t3,t4,tf⟩:=hs1.tcells;obtain⟨k0,k1,k2,k3,kf⟩:=hs1.node_cells hpk;dsimp only at k0 k1 k2 k3;rw [xi.out]at k0;have hmk:(M:Int)<(L:Int):=by omega
 have wG:=FH hs1;have A4:=FH hpi;have Bf:=FH hpk;have xZ:=FH hpo;have HM:=FH hM;have hkcM:¬(kc=M+1):=by omega
 have hvcM:¬(vc=M+1):=by omega
 have hm1:IntKind.i64.wrap ((M:Int)+1)=(M:Int)+1:=Gr _ (by omega);have hm2:((M:Int)+1).toNat=M+1:=by omega
 have hm3:(0:Int)≤(M:Int)+1:=by omega
 have hML:M≤L:=by omega
 have hML1:M+1≤L:=by omega
 have hML2:M+1≤L2:=by omega
 have hMLi:(M:Int)+1≤(L:Int):=by omega
 have hMLj:(M:Int)+1≤(L2:Int):=by omega
 have hMk:(M:Int)≤(kc:Int):=by omega
 have hMv:(M:Int)+1≤(vc:Int):=by omega
 obtain⟨yk,hyk⟩:∃yk,mk.keys.drop (M+1)=yk:=⟨_,rfl⟩;obtain⟨yv,hyv⟩:∃yv,mk.kids.drop (M+1)=yv:=⟨_,rfl⟩;have A5:=FH hyk;have zT:=FH hyv;have hykl:yk.length≤1000:=by rw [←hyk,Ga,hL];omega
 have hyvl:yv.length≤1000:=by rw [←hyv,Ga,hL2];omega
 have CD:=FH (show ∀u∈yk.flatMap Val.cells,u.oneCell'=true from fun u hu=>by obtain⟨x,_,hx⟩:=Gi.1 hu;exact Val.one x u hx);have CE:=FH (show ∀u∈yv.flatMap Proofs.YtdobimafhbfkhaaGreat.ncells,u.oneCell'=true from fun u hu=>by obtain⟨x,_,hx⟩:=Gi.1 hu;exact vN x u hx);clear hs1 hpi hpk hpo hM hsep hL hvl hL2 hyk hyv;refine aH [rq 0 999,rq 1 999,rq 2 999,rq 3 999,rq 4 999,rq 5 999,rq 6 999,rq 7 999,rq 8 999,rq 9 999,rq 10 999,rq 11 999,rq 12 999,rq 13 999] ?_;iterate 14 (refine ae rfl rfl fun K hK=>?_;go_simp;apply hK;clear hK K)
 refine ag ?_;go_upto_region 5 with (fail)
 have hs2:=(wG.out.alloc #[.bool sep.t,.int .i64 sep.n,.string sep.s] tV).drew;obtain⟨W2,hW2,hs2⟩:=hs2.hide;rw [←hW2];generalize w1.heap.size=bs at hs2 ⊢;clear hW2 wG t0 t1 t2 t3 t4 tf k0 k1 k2 k3 kf s0 s1 s2;obtain⟨k0,k1,k2,k3,kf⟩:=hs2.node_cells Bf.out;have hrk:=hs2.keys_rd Bf.out;dsimp only at k0 k1 k2 k3 hrk;rw [xi.out]at k0;have hrk2:=lG (m:=M+1) (off:=(M+1)*3) Val.len hrk (by omega) (fun _=>rfl);rw [A5.out]at hrk2;have BP:=FH hrk2;have wJ:=FH hs2;clear hs2 hrk hrk2;go_upto_region 10 with ((go_at_call 124;refine(nN BP.out CD.out (by omega) wJ.out).mono ?_;rintro e3 w3 ⟨kv3,rfl,hs3⟩;obtain⟨ko3,kc3,rfl⟩:=hs3.own_shape;obtain⟨o0,o1,o2,o3,of⟩:=TreeS.node_cells (Sat.drop hs3) xZ.out;have wI:=FH hs3;clear hs3))
 have hs4:=TreeS.put_keys xZ.out wI.out;obtain⟨W4,hW4,hs4⟩:=hs4.hide;rw [←hW4];have hpo4:=bW (x:=((⟨.slice ko3 yk.length kc3,ovv,odv⟩,{ aS mk.leaf with keys:=yk }):NP)) xZ.out;have hpk4:=bM (x:=((⟨.slice ko3 yk.length kc3,ovv,odv⟩,{ aS mk.leaf with keys:=yk }):NP)) hok Bf.out;have hpi4:=bM (x:=((⟨.slice ko3 yk.length kc3,ovv,odv⟩,{ aS mk.leaf with keys:=yk }):NP)) hoi A4.out;have hmap4:(ns1.set nw ((⟨.slice ko3 yk.length kc3,ovv,odv⟩,{ aS mk.leaf with keys:=yk }):NP)).map Prod.snd=T1.nodes.set nw { aS mk.leaf with keys:=yk }:=by rw [List.map_set,hns1]
 generalize ns1.set nw ((⟨.slice ko3 yk.length kc3,ovv,odv⟩,{ aS mk.leaf with keys:=yk }):NP)=ns4 at hs4 hpo4 hpk4 hpi4 hmap4;clear hW4 wI wJ xZ Bf A4 k0 k1 k2 k3 kf o0 o1 o2 o3 of BP CD;obtain⟨k0,k1,k2,k3,kf⟩:=hs4.node_cells hpk4;have hrv:=hs4.kids_rd hpk4;dsimp only at k0 k1 k2 k3 hrv;have hrv2:=lG (m:=M+1) (off:=M+1) jE hrv (by omega) (fun _=>by omega);rw [zT.out]at hrv2;have Aw:=FH hrv2;have wO:=FH hs4;have zl:=FH hpo4;have AI:=FH hpk4;have AJ:=FH hpi4;have zH:=FH hmap4;clear hs4 hrv hrv2 hpo4 hpk4 hpi4 hmap4;go_upto_region 11 with ((go_at_call 126;refine(tu Aw.out CE.out (by omega) wO.out).mono ?_;rintro e5 w5 ⟨vv5,rfl,hs5⟩;obtain⟨vo5,vc5,rfl⟩:=hs5.own_shape;obtain⟨o0,o1,o2,o3,of⟩:=TreeS.node_cells (Sat.drop hs5) zl.out;have wT:=FH hs5;clear hs5))
 have hs6:=TreeS.put_kids zl.out wT.out;obtain⟨W6,hW6,hs6⟩:=hs6.hide;rw [←hW6];have hpo6:=bW (x:=((⟨.slice ko3 yk.length kc3,ovv,.slice vo5 yv.length vc5⟩,{ aS mk.leaf with keys:=yk,kids:=yv }):NP)) zl.out;have hpk6:=bM (x:=((⟨.slice ko3 yk.length kc3,ovv,.slice vo5 yv.length vc5⟩,{ aS mk.leaf with keys:=yk,kids:=yv }):NP)) hok AI.out;have hpi6:=bM (x:=((⟨.slice ko3 yk.length kc3,ovv,.slice vo5 yv.length vc5⟩,{ aS mk.leaf with keys:=yk,kids:=yv }):NP)) hoi AJ.out;have hmap6:(ns4.set nw ((⟨.slice ko3 yk.length kc3,ovv,.slice vo5 yv.length vc5⟩,{ aS mk.leaf with keys:=yk,kids:=yv }):NP)).map Prod.snd=T1.nodes.set nw { aS mk.leaf with keys:=yk,kids:=yv }:=by rw [List.map_set,zH.out,List.set_set]
 generalize ns4.set nw ((⟨.slice ko3 yk.length kc3,ovv,.slice vo5 yv.length vc5⟩,{ aS mk.leaf with keys:=yk,kids:=yv }):NP)=ns6 at hs6 hpo6 hpk6 hpi6 hmap6;clear hW6 wT wO zl AI AJ zH k0 k1 k2 k3 kf o0 o1 o2 o3 of Aw CE;obtain⟨k0,k1,k2,k3,kf⟩:=hs6.node_cells hpk6;dsimp only at k0 k1 k2 k3;have hs7:=hs6.cut_kids (m:=M+1) hpk6 rfl (by show M+1≤mk.kids.length;rw [yl.out];exact hML2);have wP:=FH hs7;have BQ:=FH hpo6;have AK:=FH hpk6;have AL:=FH hpi6;have yt:=FH hmap6;clear hs6 hs7 hpo6 hpk6 hpi6 hmap6;have hMM:(M:Int)+1≤(M:Int)+1:=Int.le_refl _;go_upto_region 12 with (fail)
 obtain⟨W7,hW7,hs7⟩:=wP.out.hide;rw [←hW7];have hpk7:=bW (x:=((⟨.slice (some ⟨kg,0,none⟩) L kc,kvv,.slice (some ⟨vg,0,none⟩) (M+1) (M+1)⟩,{ mk with kids:=mk.kids.take (M+1) }):NP)) AK.out;have hpi7:=bM (x:=((⟨.slice (some ⟨kg,0,none⟩) L kc,kvv,.slice (some ⟨vg,0,none⟩) (M+1) (M+1)⟩,{ mk with kids:=mk.kids.take (M+1) }):NP)) (Ne.symm hik) AL.out;have hmap7:(ns6.set kid ((⟨.slice (some ⟨kg,0,none⟩) L kc,kvv,.slice (some ⟨vg,0,none⟩) (M+1) (M+1)⟩,{ mk with kids:=mk.kids.take (M+1) }):NP)).map Prod.snd=(T1.nodes.set nw { aS mk.leaf with keys:=yk,kids:=yv }).set kid { mk with kids:=mk.kids.take (M+1) }:=by rw [List.map_set,yt.out]
 generalize ns6.set kid ((⟨.slice (some ⟨kg,0,none⟩) L kc,kvv,.slice (some ⟨vg,0,none⟩) (M+1) (M+1)⟩,{ mk with kids:=mk.kids.take (M+1) }):NP)=ns7 at hs7 hpk7 hpi7 hmap7;clear hW7 wP BQ AK AL yt k0 k1 k2 k3 kf;obtain⟨k0,k1,k2,k3,kf⟩:=hs7.node_cells hpk7;dsimp only at k0 k1 k2 k3;have hs8:=hs7.cut_keys (m:=M) hpk7 rfl (by show M≤mk.keys.length;rw [HL.out];exact hML);have xQ:=FH hs8;have BR:=FH hpk7;have AM:=FH hpi7;have zI:=FH hmap7;clear hs7 hs8 hpk7 hpi7 hmap7;go_upto_region 13 with (fail)
 obtain⟨W8,hW8,hs8⟩:=xQ.out.hide;rw [←hW8];have hpi8:=bM (x:=((⟨.slice (some ⟨kg,0,none⟩) M M,kvv,.slice (some ⟨vg,0,none⟩) (M+1) (M+1)⟩,{ mk with kids:=mk.kids.take (M+1),keys:=mk.keys.take M }):NP)) (Ne.symm hik) AM.out;have hmap8:(ns7.set kid ((⟨.slice (some ⟨kg,0,none⟩) M M,kvv,.slice (some ⟨vg,0,none⟩) (M+1) (M+1)⟩,{ mk with kids:=mk.kids.take (M+1),keys:=mk.keys.take M }):NP)).map Prod.snd=(T1.nodes.set nw { aS mk.leaf with keys:=yk,kids:=yv }).set kid { mk with kids:=mk.kids.take (M+1),keys:=mk.keys.take M }:=by rw [List.map_set,zI.out,List.set_set]
 generalize ns7.set kid ((⟨.slice (some ⟨kg,0,none⟩) M M,kvv,.slice (some ⟨vg,0,none⟩) (M+1) (M+1)⟩,{ mk with kids:=mk.kids.take (M+1),keys:=mk.keys.take M }):NP)=ns8 at hs8 hpi8 hmap8;clear hW8 xQ BR AM zI k0 k1 k2 k3 kf;obtain⟨t0,t1,t2,t3,t4,tf⟩:=hs8.tcells;obtain⟨n0,n1,n2,n3,nf⟩:=hs8.node_cells hpi8;dsimp only at n0 n1 n2 n3;obtain⟨iko,ikc,hikv⟩:=(hs8.focus hpi8).own_shape;dsimp only at hikv;subst hikv;obtain⟨s0,s1,s2,sf⟩:=aQ (Sat.blk hs8 4 rfl);have xQ:=FH hs8;have yB:=FH hpi8;have zJ:=FH hmap8;clear hs8 hpi8 hmap8;go_upto_region 14 with (fail)
 refine aH [rq 0 11,rq 1 8,rq 2 8,rq 3 8,rq 4 8,rq 5 8,rq 6 7,(7,true,0),(8,true,0),rq 9 11,rq 10 11,(11,true,0)] ?_;iterate 7 (refine ae rfl rfl fun K hK=>?_;go_simp;apply hK;clear hK K)
 refine af rfl ?_;refine wpList_plain rfl fun K hK=>?_;go_simp;refine hK _ _ ?_;clear hK K;refine wpList_nil ?_;have hs9:=(xQ.out.alloc #[.bool sep.t,.int .i64 sep.n,.string sep.s] tV).drew;obtain⟨W9,hW9,hs9⟩:=hs9.hide;rw [←hW9];generalize W8.heap.size=bx at hs9 ⊢;clear hW9 xQ t0 t1 t2 t3 t4 tf n0 n1 n2 n3 nf s0 s1 s2 sf;obtain⟨n0,n1,n2,n3,nf⟩:=hs9.node_cells yB.out;dsimp only at n0 n1 n2 n3;obtain⟨s0,s1,s2,sf⟩:=aQ (Sat.blk hs9 5 rfl);have yi:=FH (hs9.for_keys yB.out);clear hs9;apply And.intro
 ·go_simp
 refine af rfl ?_;refine al rfl fun K hK=>?_;go_simp;refine(ic (i:=c) hil (by rfl) (Val.one sep) bx (by omega) yi.out).mono ?_;rintro e10 w10 ⟨kv10,rfl,hs10⟩;have hs10':=hs10.swap.drop;dsimp only at hs10';rw [dq Val.len,←bQ mi.keys c sep]at hs10';obtain⟨kk,hkk⟩:∃kk,aT mi.keys c sep=kk:=⟨_,rfl⟩;rw [hkk]at hs10';obtain⟨ko10,kc10,rfl⟩:=hs10'.own_shape;clear n0 n1 n2 n3 nf s0 s1 s2 sf yi hs10;obtain⟨n0,n1,n2,n3,nf⟩:=cA (hs10'.own 4 rfl) yB.out;have yG:=FH hkk;have yu:=FH hs10';dsimp only at n0 n1 n2 n3;clear hs10' hkk;refine hK _ _ ?_;clear hK K;refine wpList_nil ?_;apply And.intro
 ·go_simp
 iterate 2 (refine ae rfl rfl fun K hK=>?_;go_simp;apply hK;clear hK K)
 refine af rfl ?_;refine wpList_plain rfl fun K hK=>?_;go_simp;refine hK _ _ ?_;clear hK K;refine wpList_nil ?_;apply And.intro
 ·go_simp
 refine ag ?_;go_upto_region 15 with (fail)
 have hq11:=TreeS.set_keys yB.out yu.out;obtain⟨W11,hW11,hs11⟩:=hq11.hide;rw [←hW11];clear hq11;have hpi11:=bW (x:=((⟨.slice ko10 kk.length kc10,ivv,idv⟩,{ mi with keys:=kk }):NP)) yB.out;have hmap11:(ns8.set i ((⟨.slice ko10 kk.length kc10,ivv,idv⟩,{ mi with keys:=kk }):NP)).map Prod.snd=((T1.nodes.set nw { aS mk.leaf with keys:=yk,kids:=yv }).set kid { mk with kids:=mk.kids.take (M+1),keys:=mk.keys.take M }).set i { mi with keys:=kk }:=by rw [List.map_set,zJ.out]
 dsimp only at hs11;generalize ns8.set i ((⟨.slice ko10 kk.length kc10,ivv,idv⟩,{ mi with keys:=kk }):NP)=ns11 at hs11 hpi11 hmap11;clear hW11 yu yB zJ n0 n1 n2 n3 nf;obtain⟨n0,n1,n2,n3,nf⟩:=hs11.node_cells hpi11;dsimp only at n0 n1 n2 n3;obtain⟨ido,idc,hidv⟩:=(hs11.focus hpi11).drop.drop.own_shape;dsimp only at hidv;subst hidv;have hs12:=hs11.alloc #[.int .i64 nw] tI;have yQ:=FH (hs12.for_kids hpi11);have zK:=FH hpi11;have zU:=FH hmap11;have hwc:IntKind.i64.wrap ((c:Int)+1)=(c:Int)+1:=Gr _ (by omega);have hcn:((c:Int)+1)=((c+1:Nat):Int):=rfl;have Au:=FH hcn;have zi:=FH (show ∀u∈[Value.int .i64 nw],u.oneCell'=true by intro u hu;simp at hu;subst hu;rfl);clear hs11 hs12 hpi11 hmap11 hcn;go_wp2_with ((go_at_call 127;rw [Au.out];refine(jC (i:=c+1) (xc:=[.int .i64 nw]) (by show c+1≤mi.kids.length;omega) (by rfl) zi.out _ (by show(mi.kids.length+1)*8≤_;omega) yQ.out).mono ?_;rintro e13 w13 ⟨dv13,rfl,hs13⟩;have hs13':=hs13.swap.drop;dsimp only at hs13';obtain⟨do13,dc13,rfl⟩:=hs13'.own_shape;clear n0 n1 n2 n3 nf;obtain⟨n0,n1,n2,n3,nf⟩:=cA (hs13'.own 4 rfl) zK.out;dsimp only at n0 n1 n2 n3;have Al:=FH hs13';clear hs13 hs13'));go_end0;have e:=dq jE mi.kids (c+1) nw;have h14:=Al.out;have h14':Sat B D w13 (be (.slice do13 (mi.kids.length+1) dc13) (aT mi.kids (c+1) nw)::dm (.slice ko10 kk.length kc10) kk::dl ivv mi.vals::blk t (aM (.slice (some ⟨g,0,none⟩) N cn) fv1 T1.k) tT::aD tN 4 (.slice (some ⟨g,0,none⟩) N cn) ns11.length (ns11.flatMap aG)::be fv1 T1.free::aY ((ns11.map bV).eraseIdx i)::blk bs #[.bool sep.t,.int .i64 sep.n,.string sep.s] tV::l):=by
  unfold be;rw [bQ,←e];exact h14
 have hs15:=TreeS.set_kids zK.out h14';refine⟨rfl,_,_,_,?_,hs15.drop⟩;have ea:({ aS mk.leaf with keys:=yk,kids:=yv }:NodeM)=mk.hi:=by
  unfold NodeM.hi aS;rw [xi.out,←A5.out,←zT.out,HL.out,HM.out]
  rfl
 have eb:({ mk with kids:=mk.kids.take (M+1),keys:=mk.keys.take M }:NodeM)=mk.lo:=by
  unfold NodeM.lo;rw [xi.out,HL.out,HM.out]
  rfl
 rw [List.map_set,zU.out,List.set_set,ea,eb,←yG.out]
 rfl
def TM.maySplit (T:TM)(i c kid:Nat)(mi mk:NodeM):Prop :=
 i≠kid∧(∀x,T.free.getLast?=some x→x<T.nodes.length∧x≠i∧x≠kid)∧T.nodes.length≤1000000∧T.free.length≤1000000∧mk.keys.length≤1000∧c≤mi.keys.length∧mi.kids.length=mi.keys.length+1∧mi.keys.length≤1000 ∧
  3≤mk.keys.length∧(mk.leaf=true→mk.vals.length=mk.keys.length)∧(mk.leaf=false→mk.kids.length=mk.keys.length+1)
def TM.Split (T:TM)(i c:Nat)(T':TM):Prop :=
 ∃mi kid mk sep,T.nodes[i]?=some mi∧mi.kids[c]?=some kid∧T.nodes[kid]?=some mk∧mk.keys[mk.keys.length / 2]?=some sep∧T.maySplit i c kid mi mk∧T'=(T.slot mk.leaf).2.spl (T.slot mk.leaf).1 i kid c mi mk sep
theorem qr {B w:World}{D:PH}{t:Nat}{T T':TM}{l:List HP}{i c:Nat}(hs:T.Split i c T')(h:TreeA B D w t T l) :
  Calls Tryz.prog 110 #[.pointer (some ⟨t,0,none⟩),.int .i64 i,.int .i64 c] w fun e w'=>e = .returned (.tuple #[])∧TreeA B D w' t T' l:=by
 obtain⟨mi,kid,mk,sep,h1,h2,h3,h4,⟨g1,g2,g3,g4,g5,g6,g7,g8,g9,g10,g11⟩,rfl⟩:=hs;cases hl:mk.leaf
 ·have:=rK (nw:=(T.slot mk.leaf).1) (T1:=(T.slot mk.leaf).2) rfl h4 h1 h2 h3 g1 hl g2 g3 g4 g9 g5 (g11 hl) g6 g7 g8 h
  rw [hl]at this;exact this
 ·have:=rI (nw:=(T.slot mk.leaf).1) (T1:=(T.slot mk.leaf).2) rfl h4 h1 h2 h3 g1 hl g2 g3 g4 (by omega) g5 (g10 hl) g6 g7 g8 h
  rw [hl]at this;exact this
theorem TreeS.val_set {B w:World}{D:PH}{t N g c vg nk ck:Nat}{fv:Value}{ns:List NP}{fr:List Nat}{k:Num}{l:List HP}(h:TreeS B D w t (.slice (some ⟨g,0,none⟩) N c) fv ns fr k l){i:Nat}{p:NP}(hi:ns[i]?=some p)(hk:p.1.vv = .slice (some ⟨vg,0,none⟩) nk ck)(j:Nat)(v:VT)(_hj:j<p.2.vals.length) :
  TreeS B D (w.setCell ⟨vg,j,none⟩ (.slice v.ro v.rn v.rc)) t (.slice (some ⟨g,0,none⟩) N c) fv (ns.set i (p.1,{ p.2 with vals:=p.2.vals.set j v })) fr k l:=by
 obtain rfl:=dE (Sat.own h 1 rfl);have h1:=(h.focus hi).swap;rw [hk]at h1;obtain⟨_,_,hv,hc,_⟩:=(h1.own 0 rfl).rd.2.2;cases hv;have h2:=(h1.own_set j (.slice v.ro v.rn v.rc) rfl).swap;have e:∀(vs:List VT) (j:Nat),(vs.flatMap dS).set j (.slice v.ro v.rn v.rc)=(vs.set j v).flatMap dS:=by
  intro vs
  induction vs with
  | nil=>intro j;simp
  | cons x vs ih=>intro j;cases j with
   | zero=>simp [dS]
   | succ j=>simp only [F1,dS,List.cons_append,List.nil_append,FJ];rw [←ih]
 rw [e]at h2;have e2:(p.2.vals.set j v).length=p.2.vals.length:=FV;have h3:(ns.set i (p.1,{ p.2 with vals:=p.2.vals.set j v })).flatMap aG=ns.flatMap aG:=by
  have hlt:=(FO.1 hi).1;have:=dY 0 p (p.1,{ p.2 with vals:=p.2.vals.set j v }) (.bool p.2.leaf) (by omega) rfl ns i hi;rw [←this,Nat.add_zero];refine List.ext_getElem? (fun q=>?_);by_cases hq:q=i*4
  ·subst hq
   rw [FX (by rw [cH fm];omega)];have:=bB fm ns i p hi 0 _ rfl;rw [Nat.add_zero]at this;exact this.symm
  ·rw [F8 (fun h=>hq h.symm)]
 refine TreeS.unfocus (p':=(p.1,{ p.2 with vals:=p.2.vals.set j v })) hi ?_;rw [h3,hk];unfold dl;dsimp only;rw [e2];exact h2
theorem lC {keys:List Val}{k:Val}(h:dW keys k=true):bg keys k<keys.length:=by
 unfold dW at h;simp only [Bool.and_eq_true,decide_eq_true_eq]at h;exact h.1
theorem bsAt_le (keys:List Val)(k:Val):bg keys k≤keys.length:=(mo (jj keys k) 0 keys.length (Gp _)).2
theorem tD {B w:World}{D:PH}{t:Nat}{T:TM}{l:List HP}{i:Nat}{m:NodeM}{k:Val}{v:VT}(hi:T.nodes[i]?=some m)(hl:m.leaf=true)(hkb:m.keys.length≤1000)(hv:m.vals.length=m.keys.length)(his:dW m.keys k=true)(h:TreeA B D w t T l) :
  Calls Tryz.prog 108 #[.pointer (some ⟨t,0,none⟩),.int .i64 i,k.v,v.v] w fun e w'=>e = .returned (.bool false)∧TreeA B D w' t { T with nodes:=T.nodes.set i { m with vals:=m.vals.set (bg m.keys k) v } } l:=by
 obtain⟨nv,fv,ns,hns,hs⟩:=h;obtain⟨⟨kv,vv,dv⟩,hp⟩:=aK hns hi;have hlt:=(FO.1 hp).1;obtain⟨g,c,rfl,_,hcm⟩:=hs.nv_some (by omega);unfold maxLen at hcm;have hs1:=hs.alloc #[.bool k.t,.int .i64 k.n,.string k.s] tV;have hib:(i:Int)<(ns.length:Int):=by omega
 have wG:=FH hs1;have HP:=FH hp;have xr:=FH hns;have hbl:=lC his;have HL:=FH hl;have HV:=FH hv;have zE:=FH his;have hkb2:m.keys.length≤1000000:=by omega
 clear hs hs1 hp hi hns hl hv his;dsimp only [Val.v,RowT.v];go_enter Tryz.func108,Tryz.ntmps108;go_upto_region 1 with (fail)
 obtain⟨W,hW,hs2⟩:=wG.out.hide;rw [←hW];clear wG hW;generalize w.heap.size=bk at hs2 ⊢;obtain⟨t0,t1,t2,t3,t4,tf⟩:=hs2.tcells;obtain⟨n0,n1,n2,n3,nf⟩:=hs2.node_cells HP.out;obtain⟨x0,x1,x2,xf⟩:=aQ (Sat.blk hs2 4 rfl);have hrd:=hs2.drew.keys_rd HP.out;obtain⟨ko,kc,hkv⟩:=(hs2.focus HP.out).own_shape;obtain⟨vg,vc,hvv,hvc1,hvc2⟩:=aF (Sat.own (hs2.focus HP.out) 1 rfl) (by show 0<m.vals.length;rw [HV.out];omega);dsimp only at hkv hvv n0 n1 n2 n3 hrd;rw [HV.out]at hvv;subst hkv hvv;rw [HL.out]at n0;have wQ:=FH hrd;have wJ:=FH hs2;clear hrd hs2;go_upto_region 3 with (fail)
 refine aH [rq 0 5,rq 1 5,rq 2 5,rq 3 5,rq 4 5,(5,true,0),rq 6 999,rq 7 999,rq 8 999,rq 9 999,rq 10 999] ?_;iterate 5 (refine ae rfl rfl fun K hK=>?_;go_simp;apply hK;clear hK K)
 refine af rfl ?_;refine al rfl fun K hK=>?_;go_simp;refine(fA k wQ.out hkb2).mono ?_;rintro e1 w1 ⟨rfl,hk1⟩;have hs3:=(wJ.out.drew).kept hk1;clear hk1 wJ x0 x1 x2 xf t0 t1 t2 t3 t4 tf n0 n1 n2 n3 nf wQ;obtain⟨n0,n1,n2,n3,nf⟩:=hs3.node_cells HP.out;dsimp only at n0 n1 n2 n3;have hs4:=hs3.val_set HP.out rfl (bg m.keys k) v (by show _<m.vals.length;rw [HV.out];exact hbl);have ho:=Sat.own (hs3.focus HP.out) 1 rfl;dsimp only at ho;rw [HV.out]at ho;obtain⟨z,_,hr⟩:=ho.row;obtain⟨x,hx⟩:∃x,m.vals[bg m.keys k]?=some x:=⟨m.vals[bg m.keys k]'(by rw [HV.out];exact hbl),FP _⟩;have hvx:=ho.cells _ _ (bB kV m.vals _ x hx 0 _ rfl);rw [Nat.add_zero,Nat.mul_one]at hvx;have hvf:=hr.frozen;have wO:=FH hs4;clear hs3 hs4 hr ho hx;refine hK _ _ ?_;clear hK K;refine wpList_nil ?_;apply And.intro
 ·go_simp
 iterate 5 (refine ae rfl rfl fun K hK=>?_;go_simp;apply hK;clear hK K)
 refine ag ?_;rw [zE.out];have hab:(bg m.keys k:Int)<(m.keys.length:Int):=by omega
 go_wp2_with (fail);go_ret;exact⟨rfl,_,_,_,by rw [List.map_set,xr.out],wO.out.drop⟩
theorem ux {B w:World}{D:PH}{t:Nat}{T:TM}{l:List HP}{i:Nat}{m:NodeM}{k:Val}{v:VT}(hi:T.nodes[i]?=some m)(hl:m.leaf=true)(hkb:m.keys.length≤1000)(hv:m.vals.length=m.keys.length)(his:dW m.keys k=false)(h:TreeA B D w t T l) :
  Calls Tryz.prog 108 #[.pointer (some ⟨t,0,none⟩),.int .i64 i,k.v,v.v] w fun e w'=>e = .returned (.bool true)∧TreeA B D w' t { T with nodes:=T.nodes.set i { m with keys:=aT m.keys (bg m.keys k) k,vals:=aT m.vals (bg m.keys k) v } } l:=by
 obtain⟨nv,fv,ns,hns,hs⟩:=h;obtain⟨⟨kv,vv,dv⟩,hp⟩:=aK hns hi;have hlt:=(FO.1 hp).1;obtain⟨g,c,rfl,_,hcm⟩:=hs.nv_some (by omega);unfold maxLen at hcm;have hs1:=hs.alloc #[.bool k.t,.int .i64 k.n,.string k.s] tV;have hib:(i:Int)<(ns.length:Int):=by omega
 have wG:=FH hs1;have HP:=FH hp;have xr:=FH hns;have hbl:=bsAt_le m.keys k;have HL:=FH hl;have HV:=FH hv;have zE:=FH his;have hkb2:m.keys.length≤1000000:=by omega
 have hvb:m.vals.length≤1000:=by omega
 have hbv:bg m.keys k≤m.vals.length:=by omega
 clear hs hs1 hp hi hns hl hv his;dsimp only [Val.v,RowT.v];go_enter Tryz.func108,Tryz.ntmps108;go_upto_region 1 with (fail)
 obtain⟨W,hW,hs2⟩:=wG.out.hide;rw [←hW];clear wG hW;generalize w.heap.size=bk at hs2 ⊢;obtain⟨t0,t1,t2,t3,t4,tf⟩:=hs2.tcells;obtain⟨n0,n1,n2,n3,nf⟩:=hs2.node_cells HP.out;obtain⟨x0,x1,x2,xf⟩:=aQ (Sat.blk hs2 4 rfl);have hrd:=hs2.drew.keys_rd HP.out;obtain⟨ko,kc,hkv⟩:=(hs2.focus HP.out).own_shape;dsimp only at hkv n0 n1 n2 n3 hrd;subst hkv;rw [HL.out]at n0;have wQ:=FH hrd;have wJ:=FH hs2;clear hrd hs2;go_upto_region 3 with (fail)
 refine aH [rq 0 5,rq 1 5,rq 2 5,rq 3 5,rq 4 5,(5,true,0),rq 6 999,rq 7 999,rq 8 999,rq 9 999,rq 10 999] ?_;iterate 5 (refine ae rfl rfl fun K hK=>?_;go_simp;apply hK;clear hK K)
 refine af rfl ?_;refine al rfl fun K hK=>?_;go_simp;refine(fA k wQ.out hkb2).mono ?_;rintro e1 w1 ⟨rfl,hk1⟩;have hs3:=(wJ.out.drew).kept hk1;clear hk1 wJ x0 x1 x2 xf t0 t1 t2 t3 t4 tf n0 n1 n2 n3 nf wQ;obtain⟨n0,n1,n2,n3,nf⟩:=hs3.node_cells HP.out;obtain⟨x0,x1,x2,xf⟩:=aQ (Sat.blk hs3 4 rfl);dsimp only at n0 n1 n2 n3;have wI:=FH hs3;clear hs3;refine hK _ _ ?_;clear hK K;refine wpList_nil ?_;apply And.intro
 ·go_simp
 iterate 5 (refine ae rfl rfl fun K hK=>?_;go_simp;apply hK;clear hK K)
 refine ag ?_;rw [zE.out];go_upto_region 7 with (fail)
 refine aH [rq 0 11,rq 1 8,rq 2 8,rq 3 8,rq 4 8,rq 5 8,rq 6 7,(7,true,0),(8,true,0),rq 9 11,rq 10 11,(11,true,0)] ?_;iterate 7 (refine ae rfl rfl fun K hK=>?_;go_simp;apply hK;clear hK K)
 refine af rfl ?_;refine wpList_plain rfl fun K hK=>?_;go_simp;refine hK _ _ ?_;clear hK K;refine wpList_nil ?_;have hs4:=(wI.out.alloc #[.bool k.t,.int .i64 k.n,.string k.s] tV).drew;obtain⟨W4,hW4,hs4⟩:=hs4.hide;rw [←hW4];generalize w1.heap.size=bx at hs4 ⊢;clear hW4 wI n0 n1 n2 n3 nf x0 x1 x2 xf;obtain⟨n0,n1,n2,n3,nf⟩:=hs4.node_cells HP.out;dsimp only at n0 n1 n2 n3;have wO:=FH (hs4.for_keys HP.out);clear hs4;apply And.intro
 ·go_simp
 refine af rfl ?_;refine al rfl fun K hK=>?_;go_simp;refine(ic (i:=bg m.keys k) hbl (by rfl) (Val.one k) bx (by omega) wO.out).mono ?_;rintro e5 w5 ⟨kv5,rfl,hs5⟩;have hs5':=hs5.swap.drop;dsimp only at hs5';rw [dq Val.len,←bQ m.keys (bg m.keys k) k]at hs5';obtain⟨kk,hkk⟩:∃kk,aT m.keys (bg m.keys k) k=kk:=⟨_,rfl⟩;rw [hkk]at hs5';obtain⟨ko5,kc5,rfl⟩:=hs5'.own_shape;clear n0 n1 n2 n3 nf wO hs5;obtain⟨n0,n1,n2,n3,nf⟩:=cA (hs5'.own 4 rfl) HP.out;have yG:=FH hkk;have wT:=FH hs5';dsimp only at n0 n1 n2 n3;clear hs5' hkk;refine hK _ _ ?_;clear hK K;refine wpList_nil ?_;apply And.intro
 ·go_simp
 iterate 2 (refine ae rfl rfl fun K hK=>?_;go_simp;apply hK;clear hK K)
 refine af rfl ?_;refine wpList_plain rfl fun K hK=>?_;go_simp;refine hK _ _ ?_;clear hK K;refine wpList_nil ?_;apply And.intro
 ·go_simp
 refine ag ?_;go_upto_region 8 with (fail)
 have hq6:=TreeS.set_keys HP.out wT.out;obtain⟨W6,hW6,hs6⟩:=hq6.hide;rw [←hW6];clear hq6;have hp6:=bW (x:=((⟨.slice ko5 kk.length kc5,vv,dv⟩,{ m with keys:=kk }):NP)) HP.out;have hmap6:(ns.set i ((⟨.slice ko5 kk.length kc5,vv,dv⟩,{ m with keys:=kk }):NP)).map Prod.snd=T.nodes.set i { m with keys:=kk }:=by rw [List.map_set,xr.out]
 dsimp only at hs6;generalize ns.set i ((⟨.slice ko5 kk.length kc5,vv,dv⟩,{ m with keys:=kk }):NP)=ns6 at hs6 hp6 hmap6;clear hW6 wT HP xr n0 n1 n2 n3 nf;obtain⟨n0,n1,n2,n3,nf⟩:=hs6.node_cells hp6;dsimp only at n0 n1 n2 n3;obtain⟨vo,vc,hvv⟩:=(hs6.focus hp6).drop.own_shape;dsimp only at hvv;subst hvv;have hs7:=hs6.alloc #[.slice v.ro v.rn v.rc] tW;have wP:=FH (hs7.for_vals hp6);have CL:=FH hp6;have yt:=FH hmap6;have zi:=FH (vone v);clear hs6 hs7 hp6 hmap6;go_wp2_with ((go_at_call 123;refine(m9 (i:=bg m.keys k) (xc:=dS v) hbv (by rfl) zi.out _ (by show(m.vals.length+1)*24≤_;omega) wP.out).mono ?_;rintro e8 w8 ⟨vv8,rfl,hs8⟩;have hs8':=hs8.swap.drop;dsimp only at hs8';obtain⟨vo8,vc8,rfl⟩:=hs8'.own_shape;clear n0 n1 n2 n3 nf;obtain⟨n0,n1,n2,n3,nf⟩:=cA (hs8'.own 4 rfl) CL.out;dsimp only at n0 n1 n2 n3;have xQ:=FH hs8';clear hs8 hs8'));go_ret;have e:=dq kV m.vals (bg m.keys k) v;have h9:=xQ.out;obtain⟨vs,hvs⟩:∃vs,aT m.vals (bg m.keys k) v=vs:=⟨_,rfl⟩;have h9':Sat B D w8 (dl (.slice vo8 (m.vals.length+1) vc8) vs::dm (.slice ko5 kk.length kc5) kk::be dv m.kids::blk t (aM (.slice (some ⟨g,0,none⟩) ns.length c) fv T.k) tT::aD tN 4 (.slice (some ⟨g,0,none⟩) ns.length c) ns6.length (ns6.flatMap aG)::be fv T.free::aY ((ns6.map bV).eraseIdx i)::blk bk #[.bool k.t,.int .i64 k.n,.string k.s] tV::l):=by
  unfold dl;rw [←hvs,bQ,←e];exact h9
 have hs10:=TreeS.set_vals CL.out h9';refine⟨rfl,_,_,_,?_,hs10.drop⟩;rw [List.map_set,yt.out,List.set_set,hvs,←yG.out]
inductive TM.PutR (k:Val)(v:VT):TM→Nat→TM→Bool→Prop
 | found {T:TM} {i:Nat} {m:NodeM} (hi:T.nodes[i]?=some m) (hl:m.leaf=true) (hkb:m.keys.length≤1000) (hv:m.vals.length=m.keys.length) (his:dW m.keys k=true):TM.PutR k v T i { T with nodes:=T.nodes.set i { m with vals:=m.vals.set (bg m.keys k) v } } false
 | fresh {T:TM} {i:Nat} {m:NodeM} (hi:T.nodes[i]?=some m) (hl:m.leaf=true) (hkb:m.keys.length≤1000) (hv:m.vals.length=m.keys.length) (his:dW m.keys k=false):TM.PutR k v T i { T with nodes:=T.nodes.set i { m with keys:=aT m.keys (bg m.keys k) k,vals:=aT m.vals (bg m.keys k) v } } true
 | inner {T T1:TM} {i kid:Nat} {m mk:NodeM} {fr:Bool} (hi:T.nodes[i]?=some m) (hl:m.leaf=false) (hkb:m.keys.length≤1000) (hc:m.kids[bu m.keys k]?=some kid) (hp:TM.PutR k v T kid T1 fr) (hk:T1.nodes[kid]?=some mk) (hz:mk.size≤4):TM.PutR k v T i T1 fr
 | grown {T T1 T2:TM} {i kid:Nat} {m mk:NodeM} {fr:Bool} (hi:T.nodes[i]?=some m) (hl:m.leaf=false) (hkb:m.keys.length≤1000) (hc:m.kids[bu m.keys k]?=some kid) (hp:TM.PutR k v T kid T1 fr) (hk:T1.nodes[kid]?=some mk) (hz:4<mk.size) (hs:T1.Split i (bu m.keys k) T2):TM.PutR k v T i T2 fr
theorem oy {B w:World}{D:PH}{t:Nat}{T T1 T2:TM}{l:List HP}{i kid:Nat}{m mk:NodeM}{k:Val}{v:VT}{fr:Bool}(hi:T.nodes[i]?=some m)(hl:m.leaf=false)(hkb:m.keys.length≤1000)(hc:m.kids[bu m.keys k]?=some kid)
  (ih:∀(w:World) (l:List HP),TreeA B D w t T l→Calls Tryz.prog 108 #[.pointer (some ⟨t,0,none⟩),.int .i64 kid,k.v,v.v] w fun e w'=>e = .returned (.bool fr)∧TreeA B D w' t T1 l)
  (hk:T1.nodes[kid]?=some mk) (hz:(mk.size≤4∧T2=T1)∨(4<mk.size∧T1.Split i (bu m.keys k) T2)) (h:TreeA B D w t T l) :
  Calls Tryz.prog 108 #[.pointer (some ⟨t,0,none⟩),.int .i64 i,k.v,v.v] w fun e w'=>e = .returned (.bool fr)∧TreeA B D w' t T2 l:=by
 obtain⟨nv,fv,ns,hns,hs⟩:=h;obtain⟨⟨kv,vv,dv⟩,hp⟩:=aK hns hi;have hlt:=(FO.1 hp).1;obtain⟨g,c,rfl,_,hcm⟩:=hs.nv_some (by omega);unfold maxLen at hcm;have hs1:=hs.alloc #[.bool k.t,.int .i64 k.n,.string k.s] tV;have hib:(i:Int)<(ns.length:Int):=by omega
 have wG:=FH hs1;have HP:=FH hp;have xr:=FH hns;have HL:=FH hl;have hcl:=(FO.1 hc).1;have HC:=FH hc;have HI:=FH hi;have IH:=FH ih;have HK:=FH hk;have hkb2:m.keys.length≤1000000:=by omega
 clear hs hs1 hp hi hns hl hc ih hk;dsimp only [Val.v,RowT.v];go_enter Tryz.func108,Tryz.ntmps108;go_upto_region 1 with (fail)
 obtain⟨W,hW,hs2⟩:=wG.out.hide;rw [←hW];clear wG hW;generalize w.heap.size=bk at hs2 ⊢;obtain⟨t0,t1,t2,t3,t4,tf⟩:=hs2.tcells;obtain⟨n0,n1,n2,n3,nf⟩:=hs2.node_cells HP.out;obtain⟨x0,x1,x2,xf⟩:=aQ (Sat.blk hs2 4 rfl);dsimp only at n0 n1 n2 n3;rw [HL.out]at n0;obtain⟨C,hC⟩:∃C,bu m.keys k=C:=⟨_,rfl⟩;have HB:=FH (j4 (i:=i) k HI.out hkb2 ⟨_,_,_,xr.out,hs2⟩);rw [hC]at HB HC hcl hz;have wJ:=FH hs2;have HZ:=FH hz;clear hs2 hC hz;go_upto_region 11 with ((go_at_call 102;refine HB.out.mono ?_;rintro e1 w1 ⟨rfl,hk1⟩;have hs3:=wJ.out.kept hk1;have wI:=FH hs3;clear hk1 wJ x0 x1 x2 xf t0 t1 t2 t3 t4 tf n0 n1 n2 n3 nf HB;clear hs3))
 have hs3:=wI.out;obtain⟨t0,t1,t2,t3,t4,tf⟩:=hs3.tcells;obtain⟨n0,n1,n2,n3,nf⟩:=hs3.node_cells HP.out;obtain⟨x0,x1,x2,xf⟩:=aQ (Sat.blk hs3 4 rfl);obtain⟨dg,dc,hdv,hdc1,hdc2⟩:=aF (Sat.own (hs3.focus HP.out) 2 rfl) (by show 0<m.kids.length;omega);dsimp only at n0 n1 n2 n3 hdv;subst hdv;have hcell:=bD (hs3.kids_rd HP.out) HC.out;have hcb:(C:Int)<(m.kids.length:Int):=by omega
 have BW:=FH (IH.out w1 _ ⟨_,_,_,xr.out,hs3⟩);clear hs3 wI;go_upto_region 13 with ((go_at_call 108;refine BW.out.mono ?_;rintro e2 w2 ⟨rfl,hs4⟩;have BX:=FH hs4;clear hs4 BW x0 x1 x2 xf t0 t1 t2 t3 t4 tf n0 n1 n2 n3 nf hcell))
 have xl:=FH (dK HK.out BX.out);rcases HZ.out with ⟨hz,rfl⟩|⟨hz,hsp⟩
 ·have hz':¬((mk.size:Int) > 4):=by omega
  go_wp2_with ((go_at_call 109;refine xl.out.mono ?_;rintro e3 w3 ⟨rfl,rfl⟩));go_ret;obtain⟨nv4,fv4,ns4,hns4,hs4⟩:=BX.out;exact⟨rfl,_,_,_,hns4,hs4.drop⟩
 ·have hz':((mk.size:Int) > 4):=by omega
  have DJ:=FH (qr hsp BX.out);clear hsp;go_wp2_with (first|(go_at_call 109;refine xl.out.mono ?_;rintro e3 w3 ⟨rfl,rfl⟩)|(go_at_call 110;refine DJ.out.mono ?_;rintro e5 w5 ⟨rfl,hs5⟩;have zW:=FH hs5;clear hs5));go_ret;obtain⟨nv5,fv5,ns5,hns5,hs5⟩:=zW.out;exact⟨rfl,_,_,_,hns5,hs5.drop⟩
theorem rt {B:World}{D:PH}{t:Nat}{T T':TM}{i:Nat}{k:Val}{v:VT}{fr:Bool}(hp:T.PutR k v i T' fr):∀(w:World) (l:List HP),TreeA B D w t T l →
  Calls Tryz.prog 108 #[.pointer (some ⟨t,0,none⟩),.int .i64 i,k.v,v.v] w fun e w'=>e = .returned (.bool fr)∧TreeA B D w' t T' l:=by
 induction hp with
 | found hi hl hkb hv his=>intro w l h;exact tD hi hl hkb hv his h
 | fresh hi hl hkb hv his=>intro w l h;exact ux hi hl hkb hv his h
 | inner hi hl hkb hc hp hk hz ih=>intro w l h;exact oy hi hl hkb hc ih hk (.inl ⟨hz,rfl⟩) h
 | grown hi hl hkb hc hp hk hz hs ih=>intro w l h;exact oy hi hl hkb hc ih hk (.inr ⟨hz,hs⟩) h
theorem j9 (T:TM)(b:Bool):(T.slot b).2.k=T.k:=by unfold TM.slot;split<;>rfl
theorem TM.Split.keep {T T':TM}{i c:Nat}(h:T.Split i c T'):T'.k=T.k:=by
 obtain⟨mi,kid,mk,sep,_,_,_,_,_,rfl⟩:=h;exact j9 _ _
theorem TM.PutR.keep {k:Val}{v:VT}{T T':TM}{i:Nat}{fr:Bool}(h:T.PutR k v i T' fr):T'.k=T.k:=by
 induction h with
 | found=>rfl
 | fresh=>rfl
 | inner _ _ _ _ _ _ _ ih=>exact ih
 | grown _ _ _ _ _ _ _ hs ih=>rw [hs.keep,ih]
def TM.maySlot (T:TM):Prop:=(∀i,T.free.getLast?=some i→i<T.nodes.length)∧T.nodes.length≤1000000∧T.free.length≤1000000
def TM.more (T:TM)(b:Bool):TM:=if b then { T with k:={ T.k with many:=T.k.many+1 } } else T
def Num.fit (k:Num):Prop := -1000000≤k.many∧k.many≤1000000 ∧ -1000000≤k.depth∧k.depth≤1000000
def TM.first (T:TM):TM:={ (T.slot true).2 with k:={ T.k with root:=((T.slot true).1:Int),depth:=1 } }
def TM.top (T:TM)(r:Nat):TM:={ (T.slot false).2 with nodes:=(T.slot false).2.nodes.set (T.slot false).1 { aS false with kids:=[r] } }
theorem cq (x:Int)(h1 : -9223372036854775808≤x)(h2:x≤9223372036854775807):IntKind.i64.wrap x=x:=Gr _ (by omega)
theorem Put_bad {w:World}{p:Value}{k:Val}{v:VT}(hr:am k=false)(hp:p = .pointer none∨∃t,p = .pointer (some ⟨t,0,none⟩)) :
  Calls Tryz.prog 92 #[p,k.v,v.v] w fun e w'=>e = .returned (.bool false)∧Kept (fun _=>False) w w':=by
 have hk0:Kept (fun _=>False) w (w.alloc (.cells #[.bool k.t,.int .i64 k.n,.string k.s] tV)):=(Kept.refl _ _).alloc _;have yL:=FH hk0;have HR:=FH hr;have hb:(w.alloc (.cells #[.bool k.t,.int .i64 k.n,.string k.s] tV)).heap[w.heap.size]?=some (.cells #[.bool k.t,.int .i64 k.n,.string k.s] tV (0,0)):=ak w _;have HB:=FH hb;clear hk0 hr hb;dsimp only [Val.v,RowT.v];rcases hp with rfl|⟨t,rfl⟩
 all_goals
  go_enter Tryz.func92,Tryz.ntmps92;go_upto_region 1 with (fail)
  obtain⟨W,hW⟩:∃W,W=w.alloc (.cells #[.bool k.t,.int .i64 k.n,.string k.s] tV):=⟨_,rfl⟩;rw [←hW]at yL HB ⊢;generalize w.heap.size=bk at HB ⊢;obtain⟨x0,x1,x2,xf⟩:=aQ HB.out;clear hW;go_wp2_with ((go_at_call 32;refine(cP k _).mono ?_;rw [HR.out];rintro e1 w1 ⟨rfl,hk1⟩;have wN:=FH hk1;clear hk1 x0 x1 x2 xf));go_ret
  first
  | exact⟨rfl,yL.out⟩
  | exact⟨rfl,yL.out.trans wN.out (fun _ h=>h.elim)⟩
theorem Put_new {B w:World}{D:PH}{t:Nat}{T T1:TM}{l:List HP}{k:Val}{v:VT}{fr:Bool}{mk:NodeM}(hr:am k=true)(hroot:T.k.root<0)(hsl:T.maySlot)(hfit:T.k.fit)
  (hp:T.first.PutR k v (T.slot true).1 T1 fr) (hk:T1.nodes[(T.slot true).1]?=some mk) (hz:mk.size≤4) (h:TreeA B D w t T l) :
  Calls Tryz.prog 92 #[.pointer (some ⟨t,0,none⟩),k.v,v.v] w fun e w'=>e = .returned (.bool fr)∧TreeA B D w' t (T1.more fr) l:=by
 obtain⟨nv,fv,ns,hns,hs⟩:=h;have hs1:=hs.alloc #[.bool k.t,.int .i64 k.n,.string k.s] tV;have hkeep:=hp.keep;obtain⟨r,T0,hrT⟩:∃r T0,T.slot true=(r,T0):=⟨_,_,rfl⟩;have hSL:∀(w:World) (l:List HP),TreeA B D w t T l→_:=fun w l=>lu true hsl.1 hsl.2.1 hsl.2.2;have hT0:T.first = { T0 with k:={ T.k with root:=(r:Int),depth:=1 } }:=by unfold TM.first;rw [hrT]
 have hT0k:T0.k=T.k:=by have:=j9 T true;rw [hrT]at this;exact this
 rw [hT0]at hp hkeep;rw [hrT]at hp hk hSL;have hk1:T1.k = { T.k with root:=(r:Int),depth:=1 }:=hkeep;obtain⟨f1,f2,f3,f4⟩:=hfit;have wG:=FH hs1;have HR:=FH hr;have Aj:=FH hSL;have HP:=FH (rt (B:=B) (D:=D) (t:=t) hp);have xr:=FH hns;have HK:=FH hk;have wN:=FH hk1;have HT0K:=FH hT0k;have hw:IntKind.i64.wrap (T.k.many+1)=T.k.many+1:=cq _ (by omega) (by omega);have HW:=FH hw;clear hs hs1 hr hSL hp hns hk hk1 hkeep hT0 hrT hsl hw hT0k;dsimp only [Val.v,RowT.v];go_enter Tryz.func92,Tryz.ntmps92;go_upto_region 1 with (fail)
 obtain⟨W,hW,hs2⟩:=wG.out.hide;rw [←hW];clear wG hW;generalize w.heap.size=bk at hs2 ⊢;obtain⟨x0,x1,x2,xf⟩:=aQ (Sat.blk hs2 4 rfl);have wJ:=FH hs2;clear hs2;go_upto_region 3 with ((go_at_call 32;refine(cP k _).mono ?_;rw [HR.out];rintro e1 w1 ⟨rfl,hk1⟩;have wI:=FH (wJ.out.kept hk1);clear hk1 wJ x0 x1 x2 xf))
 obtain⟨t0,t1,t2,t3,t4,tf⟩:=wI.out.tcells;have Ex:=FH (Aj.out _ _ ⟨_,_,_,xr.out,wI.out⟩);clear wI Aj;go_upto_region 6 with ((go_at_call 107;refine Ex.out.mono ?_;clear t0 t1 t2 t3 t4 tf;rintro e2 w2 ⟨rfl,nv4,fv4,ns4,hns4,hs4⟩;obtain⟨t0,t1,t2,t3,t4,tf⟩:=hs4.tcells;have wO:=FH hs4;have DK:=FH hns4;clear hs4 hns4 Ex))
 obtain⟨W5,hW5,hs5⟩:=((wO.out.set_root r).set_depth 1).hide;rw [←hW5];clear hW5 wO t0 t1 t2 t3 t4 tf;rw [HT0K.out]at hs5;obtain⟨t0,t1,t2,t3,t4,tf⟩:=hs5.tcells;obtain⟨x0,x1,x2,xf⟩:=aQ (Sat.blk hs5 4 rfl);have Bu:=FH (HP.out W5.drew _ ⟨_,_,_,DK.out,hs5.drew⟩);clear hs5 HP;refine aH [rq 0 7,rq 1 7,rq 2 7,rq 3 7,rq 4 7,rq 5 7,rq 6 7,(7,true,0),rq 8 999] ?_;iterate 7 (refine ae rfl rfl fun K hK=>?_;go_simp;apply hK;clear hK K)
 refine af rfl ?_;refine al rfl fun K hK=>?_;go_simp;refine Bu.out.mono ?_;clear t0 t1 t2 t3 t4 tf x0 x1 x2 xf;rintro e6 w6 ⟨rfl,ha6⟩;have xl:=FH (dK HK.out ha6);obtain⟨nv6,fv6,ns6,hns6,hs6⟩:=ha6;rw [wN.out]at hs6;obtain⟨t0,t1,t2,t3,t4,tf⟩:=hs6.tcells;have wK:=FH hs6;have AN:=FH hns6;clear hs6 hns6 Bu;refine hK _ _ ?_;clear hK K;refine wpList_nil ?_;apply And.intro
 ·go_simp
 refine ae rfl rfl fun K hK=>?_;go_simp;apply hK;clear hK K;refine ag ?_;have hz':¬((mk.size:Int) > 4):=by omega
 go_upto_region 13 with ((go_at_call 109;refine xl.out.mono ?_;rintro e7 w7 ⟨rfl,rfl⟩))
 have hw:=HW.out;cases fr
 ·go_wp2_with (fail)
  go_ret;exact⟨rfl,_,_,_,AN.out,by show TreeS _ _ _ _ _ _ _ T1.free T1.k _;rw [wN.out];exact wK.out.drop⟩
 ·go_wp2_with (fail)
  go_ret;exact⟨rfl,_,_,_,AN.out,by show TreeS _ _ _ _ _ _ _ T1.free { T1.k with many:=T1.k.many+1 } _;rw [wN.out];exact(wK.out.set_many _).drop⟩
end Go.Proofs.YtdobimafhbfkhaaGreat
