/- The tree: contract of Get, and what follows. -/
import Derived.Test.YtdobimafhbfkhaaGreatOY19
set_option maxHeartbeats 64000000
namespace Go.Proofs.YtdobimafhbfkhaaGreat
open Go.ChangeShapes Go.WideShapes Go.ChangeAt Go.RowKit
set_option maxRecDepth 100000
set_option linter.unusedSimpArgs false
theorem TM.Leads.end_ {T:TM}{k:Val}{n i j:Nat}(h:T.Leads k n i j):∃m,T.nodes[j]?=some m∧m.leaf=true:=by
 induction h with
 | leaf hi hl=>exact⟨_,hi,hl⟩
 | inner _ _ _ _ _ ih=>exact ih
def NilT (w:World)(p:Value):Prop:=p = .pointer none∨∃t r,p = .pointer (some ⟨t,0,none⟩)∧w.cell? ⟨t,2,none⟩=some (.int .i64 r)∧r<0
theorem NilT.kept {w w':World}{p:Value}(h:NilT w p)(k:Kept (fun _=>False) w w'):NilT w' p:=h.imp (fun h=>h) (fun ⟨t,r,h1,h2,h3⟩=>⟨t,r,h1,k.cell' h2 (fun h=>h),h3⟩)
theorem td {w:World}{k:Val}{p:Value}(hp:NilT w p) :
  Calls Tryz.prog 111 #[p,k.v] w fun e w'=>e = .returned (.pointer none)∧Kept (fun _=>False) w w':=by
 have hk1:Kept (fun _=>False) w (w.alloc (.cells #[.bool k.t,.int .i64 k.n,.string k.s] tV)):=(Kept.refl _ _).alloc _;have wN:=FH hk1;dsimp only [Val.v];rcases hp with rfl|⟨t,r,rfl,hc,hr⟩
 ·clear hk1
  go_enter Tryz.func111,Tryz.ntmps111;go_wp2_with (fail);go_ret;exact⟨rfl,wN.out⟩
 ·have hc2:=hk1.cell' hc (fun h=>h)
  clear hk1 hc;go_enter Tryz.func111,Tryz.ntmps111;go_wp2_with (fail);go_ret;exact⟨rfl,wN.out⟩
theorem wo {w:World}{k:Val}{p:Value}(hp:NilT w p) :
  Calls Tryz.prog 93 #[p,k.v] w fun e w'=>e = .returned (.tuple #[RowT.none.v,.bool false])∧Kept (fun _=>False) w w':=by
 have hk1:Kept (fun _=>False) w (w.alloc (.cells #[.bool k.t,.int .i64 k.n,.string k.s] tV)):=(Kept.refl _ _).alloc _;have hb1:(w.alloc (.cells #[.bool k.t,.int .i64 k.n,.string k.s] tV)).heap[w.heap.size]?=some (.cells #[.bool k.t,.int .i64 k.n,.string k.s] tV (0,0)):=ak w _;have HP:=FH (hp.kept hk1);have wN:=FH hk1;have wL:=FH hb1;clear hk1 hb1 hp;dsimp only [Val.v];go_enter Tryz.func93,Tryz.ntmps93;go_upto_region 2 with (fail)
 obtain⟨W,hW⟩:∃W,W=w.alloc (.cells #[.bool k.t,.int .i64 k.n,.string k.s] tV):=⟨_,rfl⟩;rw [←hW]at wN wL HP ⊢;generalize w.heap.size=bk at wL ⊢;obtain⟨x0,x1,x2,xf⟩:=aQ wL.out;clear hW;go_wp2_with ((go_at_call 111;refine(td HP.out).mono ?_;rintro e1 w1 ⟨rfl,hk2⟩;have wV:=FH (wN.out.trans hk2 (fun _ h=>h.elim));clear hk2 x0 x1 x2 xf))
 go_ret2
 exact⟨rfl,wV.out⟩
def NodeM.get (m:NodeM)(k:Val):VT:=if am k&&dW m.keys k then m.vals.getD (bg m.keys k) RowT.none else RowT.none
def NodeM.has (m:NodeM)(k:Val):Bool:=am k&&dW m.keys k
theorem Get_at {B w:World}{D:PH}{t n r j:Nat}{T:TM}{l:List HP}{k:Val}{m:NodeM}(hroot:T.k.root=(r:Int))(hld:T.Leads k n r j)(hj:T.nodes[j]?=some m)(hkb:m.keys.length≤1000)(hv:m.vals.length=m.keys.length)
  (h:TreeA B D w t T l) :
  Calls Tryz.prog 93 #[.pointer (some ⟨t,0,none⟩),k.v] w fun e w'=>e = .returned (.tuple #[(m.get k).v,.bool (m.has k)])∧Kept (fun _=>False) w w':=by
 obtain⟨nv,fv,ns,hns,hs⟩:=h;obtain⟨⟨kv,vv,dv⟩,hp⟩:=aK hns hj;have hlt:=(FO.1 hp).1;obtain⟨g,c,rfl,_,hcm⟩:=hs.nv_some (by omega);unfold maxLen at hcm;have hk1:Kept (fun _=>False) w (w.alloc (.cells #[.bool k.t,.int .i64 k.n,.string k.s] tV)):=(Kept.refl _ _).alloc _;have hb1:(w.alloc (.cells #[.bool k.t,.int .i64 k.n,.string k.s] tV)).heap[w.heap.size]?=some (.cells #[.bool k.t,.int .i64 k.n,.string k.s] tV (0,0)):=ak w _;have hib:(j:Int)<(ns.length:Int):=by omega
 obtain⟨ko,kc,hkv⟩:=(hs.focus hp).own_shape;obtain⟨vo,vc,hvv⟩:=(hs.focus hp).drop.own_shape;dsimp only at hkv hvv;rw [hv]at hvv;subst hkv hvv;have HS:=FH (hs.kept hk1);have wN:=FH hk1;have wL:=FH hb1;have xr:=FH hns;have yH:=FH hld;have xH:=FH hroot;have HP:=FH hp;have HV:=FH hv;have hkb2:m.keys.length≤1000000:=by omega
 clear hs hk1 hb1 hns hld hroot hp hj hv;dsimp only [Val.v];go_enter Tryz.func93,Tryz.ntmps93;go_upto_region 2 with (fail)
 obtain⟨W,hW⟩:∃W,W=w.alloc (.cells #[.bool k.t,.int .i64 k.n,.string k.s] tV):=⟨_,rfl⟩;rw [←hW]at wN wL HS ⊢;generalize w.heap.size=bk at wL ⊢;obtain⟨x0,x1,x2,xf⟩:=aQ wL.out;clear hW;go_upto_region 3 with ((go_at_call 111;refine(leaf_ok xr.out xH.out yH.out HS.out).mono ?_;rintro e1 w1 ⟨rfl,hk2⟩;have wV:=FH hk2;clear hk2 x0 x1 x2 xf))
 have xV:=FH (wN.out.trans wV.out (fun _ h=>h.elim));obtain⟨x0,x1,x2,xf⟩:=aQ ((wV.out.block _ (aw wL.out) (fun h=>h)).trans wL.out);cases hr:am k
 ·have HR:=FH hr
  have HG:=FH (show m.get k=RowT.none∧m.has k=false by unfold NodeM.get NodeM.has;rw [hr];exact⟨rfl,rfl⟩);clear hr;go_wp2_with ((go_at_call 32;refine(cP k _).mono ?_;rw [HR.out];rintro e2 w2 ⟨rfl,hk3⟩;have xO:=FH (xV.out.trans hk3 (fun _ h=>h.elim));clear hk3))
  go_ret2
  exact⟨by rw [HG.out.1,HG.out.2];rfl,xO.out⟩
 ·have HR:=FH hr
  clear hr;go_upto_region 5 with ((go_at_call 32;refine(cP k _).mono ?_;rw [HR.out];rintro e2 w2 ⟨rfl,hk3⟩;have xO:=FH (wV.out.trans hk3 (fun _ h=>h.elim));clear hk3 x0 x1 x2 xf))
  have hs4:=HS.out.kept xO.out;obtain⟨x0,x1,x2,xf⟩:=aQ ((xO.out.block _ (aw wL.out) (fun h=>h)).trans wL.out);obtain⟨n0,n1,n2,n3,nf⟩:=hs4.node_cells HP.out;dsimp only at n0 n1 n2 n3;have hrd:=hs4.drew.keys_rd HP.out;dsimp only at hrd;have wQ:=FH hrd;have wO:=FH hs4;clear hrd hs4;refine aH [rq 0 5,rq 1 5,rq 2 5,rq 3 5,rq 4 5,(5,true,0),rq 6 999,rq 7 999,rq 8 999,rq 9 999,rq 10 999] ?_;iterate 5 (refine ae rfl rfl fun K hK=>?_;go_simp;apply hK;clear hK K)
  refine af rfl ?_;refine al rfl fun K hK=>?_;go_simp;refine(fA k wQ.out hkb2).mono ?_;rintro e5 w5 ⟨rfl,hk5⟩;have hk5':Kept (fun _=>False) w2 w5:=((Kept.refl _ _).drew).trans hk5 (fun _ h=>h.elim);have hs5:=wO.out.kept hk5';have Cr:=FH ((wN.out.trans xO.out (fun _ h=>h.elim)).trans hk5' (fun _ h=>h.elim));clear x0 x1 x2 xf n0 n1 n2 n3 nf wQ hk5 hk5';obtain⟨n0,n1,n2,n3,nf⟩:=hs5.node_cells HP.out;dsimp only at n0 n1 n2 n3;have DN:=FH (hs5.vals_rd HP.out);clear hs5;refine hK _ _ ?_;clear hK K;refine wpList_nil ?_;apply And.intro
  ·go_simp
  iterate 5 (refine ae rfl rfl fun K hK=>?_;go_simp;apply hK;clear hK K)
  refine ag ?_;cases his:dW m.keys k
  ·have HG:=FH (show m.get k=RowT.none∧m.has k=false by unfold NodeM.get NodeM.has;rw [his,Bool.and_false];exact⟨rfl,rfl⟩)
   clear his;go_wp2_with (fail)
   go_ret2
   exact⟨by rw [HG.out.1,HG.out.2];rfl,Cr.out⟩
  ·have hbl:=lC his
   obtain⟨v,hvx⟩:∃v,m.vals[bg m.keys k]?=some v:=⟨m.vals[bg m.keys k]'(by rw [HV.out];exact hbl),FP _⟩;have hvr:=DN.out;dsimp only at hvr;rw [HV.out]at hvr;obtain⟨vg,vo2,rfl,hvc⟩:∃vg vo2,vo=some ⟨vg,vo2,none⟩∧w5.cell? ⟨vg,vo2+bg m.keys k,none⟩=some v.v:=by
    obtain⟨_,_,hvq,_,_,_,hc⟩:=hvr.2.2;cases hvq;rcases hc with h0|⟨vg,vo2,hg,hc⟩
    ·omega
    ·have:=hc _ _ (bB kV m.vals _ v hvx 0 _ rfl)
     exact⟨vg,vo2,hg,by simpa using this⟩
   have hab:(bg m.keys k:Int)<(m.keys.length:Int):=by omega
   have HG:=FH (show m.get k=v∧m.has k=true by unfold NodeM.get NodeM.has;rw [HR.out,his,Bool.and_true,if_pos rfl,FW,hvx];exact⟨rfl,rfl⟩);clear his hvx hvr;go_wp2_with (fail)
   go_ret2
   exact⟨by rw [HG.out.1,HG.out.2];rfl,Cr.out⟩
attribute [local go_sem] Oper.semAt_some
theorem uk (n:Int)(s:ByteArray):am ⟨false,n,s⟩=s.toList.isEmpty:=by
 unfold am;simp only [Bool.false_eq_true,if_false];by_cases h:s=⟨#[]⟩
 ·subst h
  rw [ByteArray.toList_eq]
  rfl
 ·rw [FY h,ByteArray.toList_eq]
  cases he:s.data.toList.isEmpty with
  | false=>rfl
  | true =>
   exfalso
   apply h;obtain⟨⟨x⟩⟩:=s;cases x with
   | nil=>rfl
   | cons a b=>simp at he
theorem i7 (v:Val)(w:World):Calls Tryz.prog 26 #[v.v] w fun e w'=>e = .returned (.bool (am v))∧Kept (fun _=>False) w w':=by
 obtain⟨t,n,s⟩:=v;have hk:Kept (fun _=>False) w (w.alloc (.cells #[.bool t,.int .i64 n,.string s] 24)):=(Kept.refl _ _).alloc _;have HK:=FH hk;clear hk;cases t
 ·have E:=FH (uk n s)
  go_enter Tryz.func26,Tryz.ntmps26;go_wp2_with fail;go_ret;exact⟨by rw [E.out];rfl,HK.out⟩
 ·by_cases h:n=0
  ·subst h
   by_cases hs:(s.size:Int)≤12
   ·have E:=FH (show am ⟨true,0,s⟩=true by simp [am];omega)
    go_enter Tryz.func26,Tryz.ntmps26;go_wp2_with fail;go_ret;exact⟨by rw [E.out];rfl,HK.out⟩
   ·have E:=FH (show am ⟨true,0,s⟩=false by simp [am];omega)
    go_enter Tryz.func26,Tryz.ntmps26;go_wp2_with fail;go_ret;exact⟨by rw [E.out];rfl,HK.out⟩
  ·have hb:(n == 0)=false:=by simpa using h
   have E:=FH (show am ⟨true,n,s⟩=false by simp [am,h]);go_enter Tryz.func26,Tryz.ntmps26;go_wp2_with fail;go_ret;exact⟨by rw [E.out];rfl,HK.out⟩
theorem qD {w:World}{k:Val}{p:Value}(hp:NilT w p) :
  Calls Tryz.prog 91 #[p,k.v] w fun e w'=>e = .returned (.bool false)∧Kept (fun _=>False) w w':=by
 have hk1:Kept (fun _=>False) w (w.alloc (.cells #[.bool k.t,.int .i64 k.n,.string k.s] tV)):=(Kept.refl _ _).alloc _;have hp1:=hp.kept hk1;have wN:=FH hk1;clear hk1 hp;dsimp only [Val.v];rcases hp1 with rfl|⟨t,r,rfl,hc,hr⟩
 all_goals
  go_enter Tryz.func91,Tryz.ntmps91;go_upto_region 1 with (fail)
  refine aH [rq 0 11,rq 1 11,rq 2 11,rq 3 11,rq 4 11,rq 5 11,rq 6 11,rq 7 11,rq 8 11,rq 9 11,rq 10 11,(11,true,0),rq 12 21,rq 13 21,rq 14 21,rq 15 21,rq 16 21,rq 17 21,rq 18 21,rq 19 21,rq 20 21,(21,true,0),rq 22 999,rq 23 999] ?_;iterate 11 (first|(refine ax rfl rfl ?_;simp only [Act.put,FI,FJ,FK,FL,FM,FN])|((first|refine ae rfl rfl (fun K hK=>?_)|refine ar rfl rfl fun K hK=>?_);go_simp;apply hK;clear hK K))
  refine af rfl ?_;refine bU rfl ?_;simp only [Act.put,FI,FJ,FK];refine wpList_nil ?_;apply And.intro
  ·go_simp
  iterate 9 (first|(refine ax rfl rfl ?_;simp only [Act.put,FI,FJ,FK,FL,FM,FN])|((first|refine ae rfl rfl (fun K hK=>?_)|refine ar rfl rfl fun K hK=>?_);go_simp;apply hK;clear hK K))
  refine af rfl ?_;refine bU rfl ?_;simp only [Act.put,FI,FJ,FK];refine wpList_nil ?_;apply And.intro
  ·go_simp
  iterate 2 (first|(refine ax rfl rfl ?_;simp only [Act.put,FI,FJ,FK,FL,FM,FN])|((first|refine ae rfl rfl (fun K hK=>?_)|refine ar rfl rfl fun K hK=>?_);go_simp;apply hK;clear hK K))
  refine ag ?_;go_wp2_with fail;go_ret;exact⟨rfl,wN.out.drew⟩
def TM.less (T:TM):TM:={ T with k:={ T.k with many:=T.k.many-1 } }
def TM.drop1 (T:TM)(root:Int)(top:Nat):TM:={ (T.give top)with k:={ root:=root,many:=T.k.many-1,depth:=T.k.depth-1 } }
theorem nL {B w:World}{D:PH}{t r:Nat}{T:TM}{l:List HP}{k:Val}(hr:am k=false∨(am k=true∧∀(w:World) (l:List HP),TreeA B D w t T l→Calls Tryz.prog 105 #[.pointer (some ⟨t,0,none⟩),.int .i64 r,k.v] w fun e w'=>e = .returned (.bool false)∧TreeA B D w' t T l))
  (hroot:T.k.root=(r:Int)) (h:TreeA B D w t T l) :
  Calls Tryz.prog 91 #[.pointer (some ⟨t,0,none⟩),k.v] w fun e w'=>e = .returned (.bool false)∧TreeA B D w' t T l:=by
 obtain⟨nv,fv,ns,hns,hs⟩:=h;have wG:=FH (hs.alloc #[.bool k.t,.int .i64 k.n,.string k.s] tV);have xr:=FH hns;have xH:=FH hroot;have hr0:¬((r:Int)<0):=by omega
 clear hs hns hroot;dsimp only [Val.v];rcases hr with hr|⟨hr,hrem⟩
 all_goals
  have HR:=FH hr;clear hr;go_enter Tryz.func91,Tryz.ntmps91;go_upto_region 1 with (fail)
  obtain⟨W,hW,hs2⟩:=wG.out.hide;rw [←hW];clear wG hW;generalize w.heap.size=bk at hs2 ⊢;obtain⟨t0,t1,t2,t3,t4,tf⟩:=hs2.tcells;obtain⟨x0,x1,x2,xf⟩:=aQ (Sat.blk hs2 4 rfl);rw [xH.out]at t2;have wJ:=FH hs2;clear hs2
 ·refine aH [rq 0 11,rq 1 11,rq 2 11,rq 3 11,rq 4 11,rq 5 11,rq 6 11,rq 7 11,rq 8 11,rq 9 11,rq 10 11,(11,true,0),rq 12 21,rq 13 21,rq 14 21,rq 15 21,rq 16 21,rq 17 21,rq 18 21,rq 19 21,rq 20 21,(21,true,0),rq 22 999,rq 23 999] ?_
  iterate 11 (first|(refine ax rfl rfl ?_;simp only [Act.put,FI,FJ,FK,FL,FM,FN])|((first|refine ae rfl rfl (fun K hK=>?_)|refine ar rfl rfl fun K hK=>?_);go_simp;apply hK;clear hK K))
  refine af rfl ?_;refine al rfl fun K hK=>?_;go_simp;refine(cP k _).mono ?_;rw [HR.out];rintro e1 w1 ⟨rfl,hk1⟩;have wI:=FH ((wJ.out.drew).kept hk1);clear hk1 wJ x0 x1 x2 xf t0 t1 t2 t3 t4 tf;obtain⟨t0,t1,t2,t3,t4,tf⟩:=wI.out.tcells;obtain⟨x0,x1,x2,xf⟩:=aQ (Sat.blk wI.out 4 rfl);rw [xH.out]at t2;refine hK _ _ ?_;clear hK K;refine wpList_nil ?_;apply And.intro
  ·go_simp
  iterate 9 (first|(refine ax rfl rfl ?_;simp only [Act.put,FI,FJ,FK,FL,FM,FN])|((first|refine ae rfl rfl (fun K hK=>?_)|refine ar rfl rfl fun K hK=>?_);go_simp;apply hK;clear hK K))
  refine af rfl ?_;refine bU rfl ?_;simp only [Act.put,FI,FJ,FK];refine wpList_nil ?_;apply And.intro
  ·go_simp
  iterate 2 (first|(refine ax rfl rfl ?_;simp only [Act.put,FI,FJ,FK,FL,FM,FN])|((first|refine ae rfl rfl (fun K hK=>?_)|refine ar rfl rfl fun K hK=>?_);go_simp;apply hK;clear hK K))
  refine ag ?_;go_wp2_with fail;go_ret;exact⟨rfl,_,_,_,xr.out,wI.out.drop⟩
 ·have zX:=FH hrem
  clear hrem;refine aH [rq 0 11,rq 1 11,rq 2 11,rq 3 11,rq 4 11,rq 5 11,rq 6 11,rq 7 11,rq 8 11,rq 9 11,rq 10 11,(11,true,0),rq 12 21,rq 13 21,rq 14 21,rq 15 21,rq 16 21,rq 17 21,rq 18 21,rq 19 21,rq 20 21,(21,true,0),rq 22 999,rq 23 999] ?_;iterate 11 (first|(refine ax rfl rfl ?_;simp only [Act.put,FI,FJ,FK,FL,FM,FN])|((first|refine ae rfl rfl (fun K hK=>?_)|refine ar rfl rfl fun K hK=>?_);go_simp;apply hK;clear hK K))
  refine af rfl ?_;refine al rfl fun K hK=>?_;go_simp;refine(cP k _).mono ?_;rw [HR.out];rintro e1 w1 ⟨rfl,hk1⟩;have wI:=FH ((wJ.out.drew).kept hk1);clear hk1 wJ x0 x1 x2 xf t0 t1 t2 t3 t4 tf;obtain⟨t0,t1,t2,t3,t4,tf⟩:=wI.out.tcells;obtain⟨x0,x1,x2,xf⟩:=aQ (Sat.blk wI.out 4 rfl);rw [xH.out]at t2;have BY:=FH (zX.out w1 _ ⟨_,_,_,xr.out,wI.out⟩);refine hK _ _ ?_;clear hK K;refine wpList_nil ?_;apply And.intro
  ·go_simp
  iterate 9 (first|(refine ax rfl rfl ?_;simp only [Act.put,FI,FJ,FK,FL,FM,FN])|((first|refine ae rfl rfl (fun K hK=>?_)|refine ar rfl rfl fun K hK=>?_);go_simp;apply hK;clear hK K))
  refine af rfl ?_;refine al rfl fun K hK=>?_;go_simp;refine BY.out.mono ?_;rintro e2 w2 ⟨rfl,nv2,fv2,ns2,hns2,hs2⟩;have wO:=FH hs2;have yS:=FH hns2;clear hns2 x0 x1 x2 xf t0 t1 t2 t3 t4 tf;obtain⟨t0,t1,t2,t3,t4,tf⟩:=hs2.tcells;obtain⟨x0,x1,x2,xf⟩:=aQ (Sat.blk hs2 4 rfl);rw [xH.out]at t2;clear hs2;refine hK _ _ ?_;clear hK K;refine wpList_nil ?_;apply And.intro
  ·go_simp
  iterate 2 (first|(refine ax rfl rfl ?_;simp only [Act.put,FI,FJ,FK,FL,FM,FN])|((first|refine ae rfl rfl (fun K hK=>?_)|refine ar rfl rfl fun K hK=>?_);go_simp;apply hK;clear hK K))
  refine ag ?_;go_wp2_with fail;go_ret;exact⟨rfl,_,_,_,yS.out,wO.out.drop⟩
theorem pK {B w:World}{D:PH}{t r:Nat}{T T1:TM}{l:List HP}{k:Val}{m:NodeM}(hr:am k=true)(hrem:∀(w:World) (l:List HP),TreeA B D w t T l→Calls Tryz.prog 105 #[.pointer (some ⟨t,0,none⟩),.int .i64 r,k.v] w fun e w'=>e = .returned (.bool true)∧TreeA B D w' t T1 l)
  (hroot:T.k.root=(r:Int)) (hk1:T1.k=T.k) (hfit:T.k.fit) (hm:T1.nodes[r]?=some m) (hbig:T1.nodes.length≤1000000) (hfb:T1.free.length≤1000000) (hl:m.leaf=true) (hz:T.k.many=1) (h:TreeA B D w t T l) :
  Calls Tryz.prog 91 #[.pointer (some ⟨t,0,none⟩),k.v] w fun e w'=>e = .returned (.bool true)∧TreeA B D w' t (T1.drop1 (-1) r) l:=by
 obtain⟨nv,fv,ns,hns,hs⟩:=h;obtain⟨f1,f2,f3,f4⟩:=hfit;have wG:=FH (hs.alloc #[.bool k.t,.int .i64 k.n,.string k.s] tV);have xr:=FH hns;have xH:=FH hroot;have HR:=FH hr;have zX:=FH hrem;have HM:=FH hm;have wN:=FH hk1;have Ap:=FH (And.intro hbig hfb);have hr0:¬((r:Int)<0):=by omega
 have hw1:IntKind.i64.wrap (T.k.many-1)=T.k.many-1:=cq _ (by omega) (by omega);have hw2:IntKind.i64.wrap (T.k.depth-1)=T.k.depth-1:=cq _ (by omega) (by omega);have wM:=FH hw1;have Ah:=FH hw2;have HL:=FH hl;have HZ:=FH hz;clear hl hz;clear hs hns hroot hr hrem hm hk1 hw1 hw2;dsimp only [Val.v];go_enter Tryz.func91,Tryz.ntmps91;go_upto_region 1 with (fail)
 obtain⟨W,hW,hs2⟩:=wG.out.hide;rw [←hW];clear wG hW;generalize w.heap.size=bk at hs2 ⊢;obtain⟨t0,t1,t2,t3,t4,tf⟩:=hs2.tcells;obtain⟨x0,x1,x2,xf⟩:=aQ (Sat.blk hs2 4 rfl);rw [xH.out]at t2;have wJ:=FH hs2;clear hs2;refine aH [rq 0 11,rq 1 11,rq 2 11,rq 3 11,rq 4 11,rq 5 11,rq 6 11,rq 7 11,rq 8 11,rq 9 11,rq 10 11,(11,true,0),rq 12 21,rq 13 21,rq 14 21,rq 15 21,rq 16 21,rq 17 21,rq 18 21,rq 19 21,rq 20 21,(21,true,0),rq 22 999,rq 23 999] ?_;iterate 11 (first|(refine ax rfl rfl ?_;simp only [Act.put,FI,FJ,FK,FL,FM,FN])|((first|refine ae rfl rfl (fun K hK=>?_)|refine ar rfl rfl fun K hK=>?_);go_simp;apply hK;clear hK K))
 refine af rfl ?_;refine al rfl fun K hK=>?_;go_simp;refine(cP k _).mono ?_;rw [HR.out];rintro e1 w1 ⟨rfl,hk1⟩;have wI:=FH ((wJ.out.drew).kept hk1);clear hk1 wJ x0 x1 x2 xf t0 t1 t2 t3 t4 tf;obtain⟨t0,t1,t2,t3,t4,tf⟩:=wI.out.tcells;obtain⟨x0,x1,x2,xf⟩:=aQ (Sat.blk wI.out 4 rfl);rw [xH.out]at t2;have BY:=FH (zX.out w1 _ ⟨_,_,_,xr.out,wI.out⟩);refine hK _ _ ?_;clear hK K;refine wpList_nil ?_;apply And.intro
 ·go_simp
 iterate 9 (first|(refine ax rfl rfl ?_;simp only [Act.put,FI,FJ,FK,FL,FM,FN])|((first|refine ae rfl rfl (fun K hK=>?_)|refine ar rfl rfl fun K hK=>?_);go_simp;apply hK;clear hK K))
 refine af rfl ?_;refine al rfl fun K hK=>?_;go_simp;refine BY.out.mono ?_;rintro e2 w2 ⟨rfl,nv2,fv2,ns2,hns2,hs2⟩;rw [wN.out]at hs2;have wO:=FH hs2;have yS:=FH hns2;clear hns2 x0 x1 x2 xf t0 t1 t2 t3 t4 tf;obtain⟨t0,t1,t2,t3,t4,tf⟩:=hs2.tcells;obtain⟨x0,x1,x2,xf⟩:=aQ (Sat.blk hs2 4 rfl);rw [xH.out]at t2;clear hs2;refine hK _ _ ?_;clear hK K;refine wpList_nil ?_;apply And.intro
 ·go_simp
 iterate 2 (first|(refine ax rfl rfl ?_;simp only [Act.put,FI,FJ,FK,FL,FM,FN])|((first|refine ae rfl rfl (fun K hK=>?_)|refine ar rfl rfl fun K hK=>?_);go_simp;apply hK;clear hK K))
 refine ag ?_;obtain⟨⟨kv,vv,dv⟩,hp⟩:=aK yS.out HM.out;have hlt:=(FO.1 hp).1;have hib:(r:Int)<(ns2.length:Int):=by omega
 have HP:=FH hp;obtain⟨g,c,rfl,_,hcm⟩:=wO.out.nv_some (by omega);unfold maxLen at hcm;clear hp;have hw1:=wM.out;go_upto_region 4 with (fail)
 obtain⟨W5,hW5,hs5⟩:=(wO.out.set_many (T.k.many-1)).hide;rw [←hW5];clear hW5 wO t0 t1 t2 t3 t4 tf x0 x1 x2 xf hw1;obtain⟨t0,t1,t2,t3,t4,tf⟩:=hs5.tcells;obtain⟨n0,n1,n2,n3,nf⟩:=hs5.node_cells HP.out;dsimp only at n0 n1 n2 n3 t2 t3 t4;rw [xH.out]at t2;rw [HL.out]at n0;have hz0:T.k.many-1=0:=by have:=HZ.out;omega
 have wT:=FH hs5;clear hs5;go_upto_region 10 with (fail)
 obtain⟨W6,hW6,hs6⟩:=(wT.out.set_root (-1)).hide;rw [←hW6];clear hW6 wT t0 t1 t2 t3 t4 tf n0 n1 n2 n3 nf;have HG:=FH (lw (B:=B) (D:=D) (t:=t) (T:={ T1 with k:={ root:=(-1),many:=T.k.many-1,depth:=T.k.depth } }) (i:=r) (FO.1 HM.out).1 Ap.out.1 Ap.out.2 ⟨_,_,_,yS.out,hs6⟩);clear hs6;go_upto_region 11 with ((go_at_call 106;refine HG.out.mono ?_;rintro e7 w7 ⟨rfl,nv7,fv7,ns7,hns7,hs7⟩;obtain⟨t0,t1,t2,t3,t4,tf⟩:=hs7.tcells;have wP:=FH hs7;have AO:=FH hns7;clear hs7 hns7;dsimp only [TM.give]at t4))
 have hw2:=Ah.out;go_wp2_with (fail);go_ret;refine⟨rfl,nv7,fv7,ns7,AO.out,?_⟩;rw [show(T1.drop1 (-1) r).k=({ root := -1,many:=T.k.many-1,depth:=T.k.depth-1 }:Num) by unfold TM.drop1;rw [wN.out]];exact(wP.out.set_depth (T.k.depth-1)).drop
theorem rqz {B w:World}{D:PH}{t r:Nat}{T T1:TM}{l:List HP}{k:Val}{m:NodeM}(hr:am k=true)(hrem:∀(w:World) (l:List HP),TreeA B D w t T l→Calls Tryz.prog 105 #[.pointer (some ⟨t,0,none⟩),.int .i64 r,k.v] w fun e w'=>e = .returned (.bool true)∧TreeA B D w' t T1 l)
  (hroot:T.k.root=(r:Int)) (hk1:T1.k=T.k) (hfit:T.k.fit) (hm:T1.nodes[r]?=some m) (hbig:T1.nodes.length≤1000000) (hfb:T1.free.length≤1000000) {c0:Nat} (hl:m.leaf=false) (hz:m.kids = [c0]) (h:TreeA B D w t T l) :
  Calls Tryz.prog 91 #[.pointer (some ⟨t,0,none⟩),k.v] w fun e w'=>e = .returned (.bool true)∧TreeA B D w' t (T1.drop1 (c0:Int) r) l:=by
 obtain⟨nv,fv,ns,hns,hs⟩:=h;obtain⟨f1,f2,f3,f4⟩:=hfit;have wG:=FH (hs.alloc #[.bool k.t,.int .i64 k.n,.string k.s] tV);have xr:=FH hns;have xH:=FH hroot;have HR:=FH hr;have zX:=FH hrem;have HM:=FH hm;have wN:=FH hk1;have Ap:=FH (And.intro hbig hfb);have hr0:¬((r:Int)<0):=by omega
 have hw1:IntKind.i64.wrap (T.k.many-1)=T.k.many-1:=cq _ (by omega) (by omega);have hw2:IntKind.i64.wrap (T.k.depth-1)=T.k.depth-1:=cq _ (by omega) (by omega);have wM:=FH hw1;have Ah:=FH hw2;have HL:=FH hl;have HZ:=FH hz;clear hl hz;clear hs hns hroot hr hrem hm hk1 hw1 hw2;dsimp only [Val.v];go_enter Tryz.func91,Tryz.ntmps91;go_upto_region 1 with (fail)
 obtain⟨W,hW,hs2⟩:=wG.out.hide;rw [←hW];clear wG hW;generalize w.heap.size=bk at hs2 ⊢;obtain⟨t0,t1,t2,t3,t4,tf⟩:=hs2.tcells;obtain⟨x0,x1,x2,xf⟩:=aQ (Sat.blk hs2 4 rfl);rw [xH.out]at t2;have wJ:=FH hs2;clear hs2;refine aH [rq 0 11,rq 1 11,rq 2 11,rq 3 11,rq 4 11,rq 5 11,rq 6 11,rq 7 11,rq 8 11,rq 9 11,rq 10 11,(11,true,0),rq 12 21,rq 13 21,rq 14 21,rq 15 21,rq 16 21,rq 17 21,rq 18 21,rq 19 21,rq 20 21,(21,true,0),rq 22 999,rq 23 999] ?_;iterate 11 (first|(refine ax rfl rfl ?_;simp only [Act.put,FI,FJ,FK,FL,FM,FN])|((first|refine ae rfl rfl (fun K hK=>?_)|refine ar rfl rfl fun K hK=>?_);go_simp;apply hK;clear hK K))
 refine af rfl ?_;refine al rfl fun K hK=>?_;go_simp;refine(cP k _).mono ?_;rw [HR.out];rintro e1 w1 ⟨rfl,hk1⟩;have wI:=FH ((wJ.out.drew).kept hk1);clear hk1 wJ x0 x1 x2 xf t0 t1 t2 t3 t4 tf;obtain⟨t0,t1,t2,t3,t4,tf⟩:=wI.out.tcells;obtain⟨x0,x1,x2,xf⟩:=aQ (Sat.blk wI.out 4 rfl);rw [xH.out]at t2;have BY:=FH (zX.out w1 _ ⟨_,_,_,xr.out,wI.out⟩);refine hK _ _ ?_;clear hK K;refine wpList_nil ?_;apply And.intro
 ·go_simp
 iterate 9 (first|(refine ax rfl rfl ?_;simp only [Act.put,FI,FJ,FK,FL,FM,FN])|((first|refine ae rfl rfl (fun K hK=>?_)|refine ar rfl rfl fun K hK=>?_);go_simp;apply hK;clear hK K))
 refine af rfl ?_;refine al rfl fun K hK=>?_;go_simp;refine BY.out.mono ?_;rintro e2 w2 ⟨rfl,nv2,fv2,ns2,hns2,hs2⟩;rw [wN.out]at hs2;have wO:=FH hs2;have yS:=FH hns2;clear hns2 x0 x1 x2 xf t0 t1 t2 t3 t4 tf;obtain⟨t0,t1,t2,t3,t4,tf⟩:=hs2.tcells;obtain⟨x0,x1,x2,xf⟩:=aQ (Sat.blk hs2 4 rfl);rw [xH.out]at t2;clear hs2;refine hK _ _ ?_;clear hK K;refine wpList_nil ?_;apply And.intro
 ·go_simp
 iterate 2 (first|(refine ax rfl rfl ?_;simp only [Act.put,FI,FJ,FK,FL,FM,FN])|((first|refine ae rfl rfl (fun K hK=>?_)|refine ar rfl rfl fun K hK=>?_);go_simp;apply hK;clear hK K))
 refine ag ?_;obtain⟨⟨kv,vv,dv⟩,hp⟩:=aK yS.out HM.out;have hlt:=(FO.1 hp).1;have hib:(r:Int)<(ns2.length:Int):=by omega
 have HP:=FH hp;obtain⟨g,c,rfl,_,hcm⟩:=wO.out.nv_some (by omega);unfold maxLen at hcm;clear hp;have hw1:=wM.out;go_upto_region 4 with (fail)
 obtain⟨W5,hW5,hs5⟩:=(wO.out.set_many (T.k.many-1)).hide;rw [←hW5];clear hW5 wO t0 t1 t2 t3 t4 tf x0 x1 x2 xf hw1;obtain⟨t0,t1,t2,t3,t4,tf⟩:=hs5.tcells;obtain⟨n0,n1,n2,n3,nf⟩:=hs5.node_cells HP.out;dsimp only at n0 n1 n2 n3 t2 t3 t4;rw [xH.out]at t2;rw [HL.out]at n0;obtain⟨dg,dc,hdv,hdc1,hdc2⟩:=aF (Sat.own (hs5.focus HP.out) 2 rfl) (by show 0<m.kids.length;rw [HZ.out];simp);dsimp only at hdv;rw [HZ.out]at hdv;subst hdv;have hkr:=hs5.kids_rd HP.out;dsimp only at hkr;have hcell:=bD (by rw [HZ.out]at hkr;rw [HZ.out];exact hkr) (show m.kids[0]?=some c0 by rw [HZ.out];rfl);clear hkr;have wT:=FH hs5;clear hs5;go_upto_region 10 with (fail)
 obtain⟨W6,hW6,hs6⟩:=(wT.out.set_root (c0:Int)).hide;rw [←hW6];clear hW6 wT t0 t1 t2 t3 t4 tf n0 n1 n2 n3 nf hcell;have HG:=FH (lw (B:=B) (D:=D) (t:=t) (T:={ T1 with k:={ root:=(c0:Int),many:=T.k.many-1,depth:=T.k.depth } }) (i:=r) (FO.1 HM.out).1 Ap.out.1 Ap.out.2 ⟨_,_,_,yS.out,hs6⟩);clear hs6;go_upto_region 11 with ((go_at_call 106;refine HG.out.mono ?_;rintro e7 w7 ⟨rfl,nv7,fv7,ns7,hns7,hs7⟩;obtain⟨t0,t1,t2,t3,t4,tf⟩:=hs7.tcells;have wP:=FH hs7;have AO:=FH hns7;clear hs7 hns7;dsimp only [TM.give]at t4))
 have hw2:=Ah.out;go_wp2_with (fail);go_ret;refine⟨rfl,nv7,fv7,ns7,AO.out,?_⟩;rw [show(T1.drop1 (c0:Int) r).k=({ root:=(c0:Int),many:=T.k.many-1,depth:=T.k.depth-1 }:Num) by unfold TM.drop1;rw [wN.out]];exact(wP.out.set_depth (T.k.depth-1)).drop
theorem pH {B w:World}{D:PH}{t r:Nat}{T T1:TM}{l:List HP}{k:Val}{m:NodeM}(hr:am k=true)(hrem:∀(w:World) (l:List HP),TreeA B D w t T l→Calls Tryz.prog 105 #[.pointer (some ⟨t,0,none⟩),.int .i64 r,k.v] w fun e w'=>e = .returned (.bool true)∧TreeA B D w' t T1 l)
  (hroot:T.k.root=(r:Int)) (hk1:T1.k=T.k) (hfit:T.k.fit) (hm:T1.nodes[r]?=some m) (hbig:T1.nodes.length≤1000000) (hfb:T1.free.length≤1000000) (hz:(m.leaf=true∧T.k.many≠1)∨(m.leaf=false∧m.kids.length≠1)) (h:TreeA B D w t T l) :
  Calls Tryz.prog 91 #[.pointer (some ⟨t,0,none⟩),k.v] w fun e w'=>e = .returned (.bool true)∧TreeA B D w' t T1.less l:=by
 obtain⟨nv,fv,ns,hns,hs⟩:=h;obtain⟨f1,f2,f3,f4⟩:=hfit;have wG:=FH (hs.alloc #[.bool k.t,.int .i64 k.n,.string k.s] tV);have xr:=FH hns;have xH:=FH hroot;have HR:=FH hr;have zX:=FH hrem;have HM:=FH hm;have wN:=FH hk1;have Ap:=FH (And.intro hbig hfb);have hr0:¬((r:Int)<0):=by omega
 have hw1:IntKind.i64.wrap (T.k.many-1)=T.k.many-1:=cq _ (by omega) (by omega);have hw2:IntKind.i64.wrap (T.k.depth-1)=T.k.depth-1:=cq _ (by omega) (by omega);have wM:=FH hw1;have Ah:=FH hw2;have HZ:=FH hz;clear hz;clear hs hns hroot hr hrem hm hk1 hw1 hw2;dsimp only [Val.v];go_enter Tryz.func91,Tryz.ntmps91;go_upto_region 1 with (fail)
 obtain⟨W,hW,hs2⟩:=wG.out.hide;rw [←hW];clear wG hW;generalize w.heap.size=bk at hs2 ⊢;obtain⟨t0,t1,t2,t3,t4,tf⟩:=hs2.tcells;obtain⟨x0,x1,x2,xf⟩:=aQ (Sat.blk hs2 4 rfl);rw [xH.out]at t2;have wJ:=FH hs2;clear hs2;refine aH [rq 0 11,rq 1 11,rq 2 11,rq 3 11,rq 4 11,rq 5 11,rq 6 11,rq 7 11,rq 8 11,rq 9 11,rq 10 11,(11,true,0),rq 12 21,rq 13 21,rq 14 21,rq 15 21,rq 16 21,rq 17 21,rq 18 21,rq 19 21,rq 20 21,(21,true,0),rq 22 999,rq 23 999] ?_;iterate 11 (first|(refine ax rfl rfl ?_;simp only [Act.put,FI,FJ,FK,FL,FM,FN])|((first|refine ae rfl rfl (fun K hK=>?_)|refine ar rfl rfl fun K hK=>?_);go_simp;apply hK;clear hK K))
 refine af rfl ?_;refine al rfl fun K hK=>?_;go_simp;refine(cP k _).mono ?_;rw [HR.out];rintro e1 w1 ⟨rfl,hk1⟩;have wI:=FH ((wJ.out.drew).kept hk1);clear hk1 wJ x0 x1 x2 xf t0 t1 t2 t3 t4 tf;obtain⟨t0,t1,t2,t3,t4,tf⟩:=wI.out.tcells;obtain⟨x0,x1,x2,xf⟩:=aQ (Sat.blk wI.out 4 rfl);rw [xH.out]at t2;have BY:=FH (zX.out w1 _ ⟨_,_,_,xr.out,wI.out⟩);refine hK _ _ ?_;clear hK K;refine wpList_nil ?_;apply And.intro
 ·go_simp
 iterate 9 (first|(refine ax rfl rfl ?_;simp only [Act.put,FI,FJ,FK,FL,FM,FN])|((first|refine ae rfl rfl (fun K hK=>?_)|refine ar rfl rfl fun K hK=>?_);go_simp;apply hK;clear hK K))
 refine af rfl ?_;refine al rfl fun K hK=>?_;go_simp;refine BY.out.mono ?_;rintro e2 w2 ⟨rfl,nv2,fv2,ns2,hns2,hs2⟩;rw [wN.out]at hs2;have wO:=FH hs2;have yS:=FH hns2;clear hns2 x0 x1 x2 xf t0 t1 t2 t3 t4 tf;obtain⟨t0,t1,t2,t3,t4,tf⟩:=hs2.tcells;obtain⟨x0,x1,x2,xf⟩:=aQ (Sat.blk hs2 4 rfl);rw [xH.out]at t2;clear hs2;refine hK _ _ ?_;clear hK K;refine wpList_nil ?_;apply And.intro
 ·go_simp
 iterate 2 (first|(refine ax rfl rfl ?_;simp only [Act.put,FI,FJ,FK,FL,FM,FN])|((first|refine ae rfl rfl (fun K hK=>?_)|refine ar rfl rfl fun K hK=>?_);go_simp;apply hK;clear hK K))
 refine ag ?_;obtain⟨⟨kv,vv,dv⟩,hp⟩:=aK yS.out HM.out;have hlt:=(FO.1 hp).1;have hib:(r:Int)<(ns2.length:Int):=by omega
 have HP:=FH hp;obtain⟨g,c,rfl,_,hcm⟩:=wO.out.nv_some (by omega);unfold maxLen at hcm;clear hp;have hw1:=wM.out;go_upto_region 4 with (fail)
 obtain⟨W5,hW5,hs5⟩:=(wO.out.set_many (T.k.many-1)).hide;rw [←hW5];clear hW5 wO t0 t1 t2 t3 t4 tf x0 x1 x2 xf hw1;obtain⟨t0,t1,t2,t3,t4,tf⟩:=hs5.tcells;obtain⟨n0,n1,n2,n3,nf⟩:=hs5.node_cells HP.out;dsimp only at n0 n1 n2 n3 t2 t3 t4;rw [xH.out]at t2;obtain⟨dO,dc,hdv⟩:=(hs5.focus HP.out).drop.drop.own_shape;dsimp only at hdv;subst hdv;have wT:=FH hs5;clear hs5;rcases HZ.out with ⟨hl,hz⟩|⟨hl,hz⟩
 ·rw [hl]at n0
  have hz0:(T.k.many-1 == 0)=false:=by simp;omega
  clear hl hz;go_wp2_with (fail);go_ret;refine⟨rfl,.slice (some ⟨g,0,none⟩) ns2.length c,fv2,ns2,yS.out,?_⟩;rw [show T1.less.k=({ root:=T.k.root,many:=T.k.many-1,depth:=T.k.depth }:Num) by unfold TM.less;rw [wN.out]];exact wT.out.drop
 ·rw [hl]at n0
  have hz0:((m.kids.length:Int) == 1)=false:=by simp;omega
  clear hl hz;go_wp2_with (fail);go_ret;refine⟨rfl,.slice (some ⟨g,0,none⟩) ns2.length c,fv2,ns2,yS.out,?_⟩;rw [show T1.less.k=({ root:=T.k.root,many:=T.k.many-1,depth:=T.k.depth }:Num) by unfold TM.less;rw [wN.out]];exact wT.out.drop
theorem TreeA.nil_of {B w:World}{D:PH}{t:Nat}{T:TM}{l:List HP}(h:TreeA B D w t T l)(hr:T.k.root<0):NilT w (.pointer (some ⟨t,0,none⟩)):=by
 obtain⟨nv,fv,ns,hns,hs⟩:=h;exact .inr ⟨t,_,rfl,hs.tcells.2.2.1,hr⟩
end Go.Proofs.YtdobimafhbfkhaaGreat
