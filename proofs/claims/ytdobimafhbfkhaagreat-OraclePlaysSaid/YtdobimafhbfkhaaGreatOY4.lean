/- The library's BinarySearchFunc over values, and what follows. -/
import Derived.Test.YtdobimafhbfkhaaGreatOY3
import Derived.Deep.CutBlock
set_option maxHeartbeats 64000000
namespace Go.Proofs.YtdobimafhbfkhaaGreat
open Go.ChangeShapes Go.WideShapes Go.ChangeAt Go.RowKit
set_option maxRecDepth 100000
set_option linter.unusedSimpArgs false
def bsF (cmp:Nat→Int)(i j:Nat):Nat:=if i<j then (if cmp ((i+j) / 2)<0 then bsF cmp ((i+j) / 2+1) j else bsF cmp i ((i+j) / 2))else i
termination_by j-i
def jj (keys:List Val)(k:Val)(h:Nat):Int:=ai (keys.getD h default) k
def bg (keys:List Val)(k:Val):Nat:=bsF (jj keys k) 0 keys.length
def dW (keys:List Val)(k:Val):Bool:=decide (bg keys k<keys.length)&&decide (jj keys k (bg keys k)=0)
theorem mo (cmp:Nat→Int)(i j:Nat)(h:i≤j):i≤bsF cmp i j∧bsF cmp i j≤j:=by
 unfold bsF;split
 ·split
  ·have:=mo cmp ((i+j) / 2+1) j (by omega);omega
  ·have:=mo cmp i ((i+j) / 2) (by omega);omega
 ·omega
termination_by j-i
theorem vJ {cmp:Nat→Int}{i j:Nat}(h:i<j):bsF cmp i j=if cmp ((i+j) / 2)<0 then bsF cmp ((i+j) / 2+1) j else bsF cmp i ((i+j) / 2):=by rw [bsF,if_pos h]
theorem vH {cmp:Nat→Int}{i j:Nat}(h:¬i<j):bsF cmp i j=i:=by rw [bsF,if_neg h]
theorem aE {w:World}{g o N cap h:Nat}{keys:List Val}{x:Val}(hrd:Rd w 3 (.slice (some ⟨g,o,none⟩) N cap) N (keys.flatMap Val.cells))(hx:keys[h]?=some x) :
  w.cell? ⟨g,o+h*3,none⟩=some (.bool x.t)∧w.cell? ⟨g,o+h*3+1,none⟩=some (.int .i64 x.n)∧w.cell? ⟨g,o+h*3+2,none⟩=some (.string x.s):=by
 have hlt:=(FO.1 hx).1;rcases hrd.2.2 with ⟨_,_,hv,_,_,_,hcell⟩
 cases hv;rcases hcell with h0|⟨_,_,hg,hc⟩
 ·have:=hrd.1
  rw [cH Val.len]at this;omega
 cases hg;have a0:=hc _ _ (bB Val.len keys h _ hx 0 _ rfl);have a1:=hc _ _ (bB Val.len keys h _ hx 1 _ rfl);have a2:=hc _ _ (bB Val.len keys h _ hx 2 _ rfl);rw [Nat.add_zero]at a0;rw [←Nat.add_assoc]at a1 a2;exact⟨a0,a1,a2⟩
theorem mp {keys:List Val}{h:Nat}{x:Val}(k:Val)(hx:keys[h]?=some x):jj keys k h=ai x k:=by
 unfold jj;rw [FW,hx]
 rfl
theorem fA {w:World}{v:Value}{keys:List Val}(k:Val)(hrd:Rd w 3 v keys.length (keys.flatMap Val.cells))(hbig:keys.length≤1000000) :
  Calls Tryz.prog 112 #[v,k.v,.func (.func 103) #[] #[]] w fun e w'=>e = .returned (.tuple #[.int .i64 (bg keys k),.bool (dW keys k)])∧Kept (fun _=>False) w w':=by
 obtain⟨_,hml,ao,cap,rfl,hnc,hcm,_⟩:=id hrd;unfold maxLen at hml hcm;have wQ:=FH hrd;have hk0:Kept (fun _=>False) w (w.alloc (.cells #[.bool k.t,.int .i64 k.n,.string k.s] 24)):=(Kept.refl _ _).alloc _;have hb:(w.alloc (.cells #[.bool k.t,.int .i64 k.n,.string k.s] 24)).heap[w.heap.size]?=some (.cells #[.bool k.t,.int .i64 k.n,.string k.s] 24 (0,0)):=ak w _;have yL:=FH hk0;have HB:=FH hb;clear hrd hk0 hb;obtain⟨N,hN⟩:∃N,keys.length=N:=⟨_,rfl⟩;have HN:=FH hN;rw [hN]at wQ hml hnc hbig ⊢;clear hN;dsimp only [Val.v];go_enter Tryz.func112,Tryz.ntmps112
 go_upto_block 0 with (fail)
 obtain⟨W,hW⟩:∃W,W=w.alloc (.cells #[.bool k.t,.int .i64 k.n,.string k.s] 24):=⟨_,rfl⟩;rw [←hW]at yL HB ⊢;generalize w.heap.size=bk at HB ⊢;clear hW;go_wp2_with fail
 go_loopw [9,10] (fun i j wr=>∃a b:Nat,i = .int .i64 a∧j = .int .i64 b∧a≤b∧b≤N∧bsF (jj keys k) a b=bg keys k∧Kept (fun _=>False) W wr) (fun i j _=>(intOf j-intOf i).toNat)
 case atStart=>exact⟨0,N,rfl,rfl,by omega,by omega,by rw [bg,HN.out],Kept.refl _ _⟩
 case round =>
  obtain⟨a,b,rfl,rfl,hab,hbN,hbs,hkw⟩:=hrel;have Co:=FH hbs;have xY:=FH hkw;have hrd:=wQ.out.kept (yL.out.trans hkw (fun _ h=>h.elim)) (fun _ _ h=>h);have hbk:wr.heap[bk]?=some (.cells #[.bool k.t,.int .i64 k.n,.string k.s] 24 (0,0)):=(hkw.block bk (aw HB.out) (fun h=>h)).trans HB.out;obtain⟨x0,x1,x2,xf⟩:=aQ hbk;clear hbs hkw hbk;by_cases hlt:a<b
  ·have hN':=HN.out
   obtain⟨g,o,rfl⟩:∃g o,ao=some ⟨g,o,none⟩:=by
    rcases hrd.2.2 with ⟨_,_,hv,_,_,_,hcell⟩
    cases hv;rcases hcell with h0|⟨g,o,h,_⟩
    ·omega
    ·exact⟨g,o,h⟩
   have hm2:(a+b) / 2<N:=by omega
   have hma:a≤(a+b) / 2:=by omega
   have hmb:(a+b) / 2<b:=by omega
   have BK:=FH (vJ (cmp:=jj keys k) hlt);have hcast:((a:Int)+(b:Int)) / 2=(((a+b) / 2:Nat):Int):=by omega
   generalize (a+b) / 2=M at *;obtain⟨x,hx⟩:∃x,keys[M]?=some x:=⟨keys[M]'(by omega),FP (by omega)⟩;obtain⟨y0,y1,y2⟩:=aE hrd hx;have yh:=FH (mp k hx);clear hx;clear hrd hN';have hw1:IntKind.i64.wrap ((a:Int)+(b:Int))=(a:Int)+(b:Int):=Gr _ (by omega);go_upto_region 5 with (fail)
   clear hcast;have wY:=FH (bT x k wr.drew);refine aH [rq 0 6,rq 1 6,rq 2 6,rq 3 6,rq 4 6,rq 5 6,(6,true,0),rq 7 999] ?_;iterate 6 (refine ae rfl rfl fun K hK=>?_;go_simp;apply hK;clear hK K)
   refine af rfl ?_;refine al rfl fun K hK=>?_;go_simp;refine wY.out.mono ?_;rintro e1 w1 ⟨rfl,hk1⟩;have wN:=FH (xY.out.trans (((Kept.refl (fun _=>False) wr).drew).trans hk1 (fun _ h=>h.elim)) (fun _ h=>h.elim));refine hK _ _ ?_;clear hK K;refine wpList_nil ?_;apply And.intro
   ·go_simp
   refine ae rfl rfl fun K hK=>?_;go_simp;apply hK;clear hK K;refine ag ?_;clear hk1 x0 x1 x2 xf y0 y1 y2 wY;rw [yh.out]at BK;generalize ai x k=c at *;by_cases hneg:c<0
   ·have hw2:IntKind.i64.wrap ((M:Int)+1)=(M:Int)+1:=Gr _ (by omega)
    go_wp2_with fail;go_roundw
    case rel=>exact⟨M+1,b,by go_num,rfl,by omega,by omega,by rw [←Co.out,BK.out,if_pos hneg],wN.out⟩
    case measure=>simp [intOf];omega
   ·go_wp2_with fail
    go_roundw
    case rel=>exact⟨a,M,rfl,rfl,by omega,by omega,by rw [←Co.out,BK.out,if_neg hneg],wN.out⟩
    case measure=>simp [intOf];omega
  ·have hba:bg keys k=a:=by rw [←Co.out];exact vH hlt
   have Dp:=FH hba;have haN:a≤N:=by omega
   clear hba;by_cases hend:a<N
   ·have hN':=HN.out
    obtain⟨g,o,rfl⟩:∃g o,ao=some ⟨g,o,none⟩:=by
     rcases hrd.2.2 with ⟨_,_,hv,_,_,_,hcell⟩
     cases hv;rcases hcell with h0|⟨g,o,h,_⟩
     ·omega
     ·exact⟨g,o,h⟩
    obtain⟨x,hx⟩:∃x,keys[a]?=some x:=⟨keys[a]'(by omega),FP (by omega)⟩;obtain⟨y0,y1,y2⟩:=aE hrd hx;have yh:=FH (mp k hx);clear hx;clear hrd hN';go_upto_region 8 with (fail)
    have wY:=FH (bT x k wr.drew);refine aH [rq 0 999,rq 1 11,rq 2 11,rq 3 11,rq 4 11,rq 5 11,rq 6 11,rq 7 11,rq 8 11,rq 9 11,rq 10 11,(11,true,0),rq 12 999,rq 13 999,rq 14 999,rq 15 999] ?_;(iterate 11 (first|(refine ax rfl rfl ?_;simp only [Act.put,FI,FJ,FK,FL,FM,FN])|((first|refine ae rfl rfl (fun K hK=>?_)|refine ar rfl rfl fun K hK=>?_);go_simp;apply hK;clear hK K)));refine af rfl ?_;refine al rfl fun K hK=>?_;go_simp;refine wY.out.mono ?_;rintro e1 w1 ⟨rfl,hk1⟩;have wN:=FH (yL.out.trans (xY.out.trans (((Kept.refl (fun _=>False) wr).drew).trans hk1 (fun _ h=>h.elim)) (fun _ h=>h.elim)) (fun _ h=>h.elim));have zE:=FH (show dW keys k=(ai x k == 0) by unfold dW;rw [Dp.out,HN.out,yh.out];simp [hend];rfl);refine hK _ _ ?_;clear hK K;refine wpList_nil ?_;apply And.intro
    ·go_simp
    (iterate 4 (first|(refine ax rfl rfl ?_;simp only [Act.put,FI,FJ,FK,FL,FM,FN])|((first|refine ae rfl rfl (fun K hK=>?_)|refine ar rfl rfl fun K hK=>?_);go_simp;apply hK;clear hK K)));refine ag ?_
    clear hk1 x0 x1 x2 xf y0 y1 y2 wY;go_wp2_with fail
    go_ret2
    exact⟨by rw [Dp.out,zE.out];rfl,wN.out⟩
   ·obtain rfl:a=N:=by omega
    have zE:=FH (show dW keys k=false by unfold dW;rw [Dp.out,HN.out];simp);have wN:=FH (yL.out.trans xY.out (fun _ h=>h.elim));clear hrd;go_upto_region 8 with (fail)
    refine aH [rq 0 999,rq 1 11,rq 2 11,rq 3 11,rq 4 11,rq 5 11,rq 6 11,rq 7 11,rq 8 11,rq 9 11,rq 10 11,(11,true,0),rq 12 999,rq 13 999,rq 14 999,rq 15 999] ?_;(iterate 11 (first|(refine ax rfl rfl ?_;simp only [Act.put,FI,FJ,FK,FL,FM,FN])|((first|refine ae rfl rfl (fun K hK=>?_)|refine ar rfl rfl fun K hK=>?_);go_simp;apply hK;clear hK K)));refine af rfl ?_;refine bU rfl ?_;simp only [Act.put,FI,FJ,FK];refine wpList_nil ?_;apply And.intro
    ·go_simp
    (iterate 4 (first|(refine ax rfl rfl ?_;simp only [Act.put,FI,FJ,FK,FL,FM,FN])|((first|refine ae rfl rfl (fun K hK=>?_)|refine ar rfl rfl fun K hK=>?_);go_simp;apply hK;clear hK K)));refine ag ?_
    go_wp2_with fail
    go_ret2
    exact⟨by rw [Dp.out,zE.out];rfl,wN.out.drew⟩
structure Spn where
 no:Bool
 hasLo:Bool
 openLo:Bool
 lo:Val
 hasHi:Bool
 openHi:Bool
 hi:Val
def Spn.cells (s:Spn):Array Value:=#[.bool s.no,.bool s.hasLo,.bool s.openLo,.bool s.lo.t,.int .i64 s.lo.n,.string s.lo.s,.bool s.hasHi,.bool s.openHi,.bool s.hi.t,.int .i64 s.hi.n,.string s.hi.s]
abbrev Spn.v (s:Spn):Value:=.agg #[.bool s.no,.bool s.hasLo,.bool s.openLo,.bool s.lo.t,.int .i64 s.lo.n,.string s.lo.s,.bool s.hasHi,.bool s.openHi,.bool s.hi.t,.int .i64 s.hi.n,.string s.hi.s]
abbrev tS : TypeId:=92
def gG (s:Spn)(v:Val):Bool:=s.hasLo&&(decide (ai v s.lo<0)||decide (ai v s.lo=0)&&s.openLo)
def oB (s:Spn)(v:Val):Bool:=!s.hasHi||decide (ai v s.hi<0)||decide (ai v s.hi=0) && !s.openHi
def bI (s:Spn)(v:Val):Bool:=!s.no && !gG s v&&oB s v
theorem Spn.at {w:World}{b:Nat}{s:Spn}{t:TypeId}{fr:Nat×Nat}(h:w.heap[b]?=some (.cells s.cells t fr)) :
  w.cell? ⟨b,0,none⟩=some (.bool s.no)∧w.cell? ⟨b,1,none⟩=some (.bool s.hasLo)∧w.cell? ⟨b,2,none⟩=some (.bool s.openLo)∧w.cell? ⟨b,3,none⟩=some (.bool s.lo.t)∧w.cell? ⟨b,4,none⟩=some (.int .i64 s.lo.n)∧w.cell? ⟨b,5,none⟩=some (.string s.lo.s) ∧
  w.cell? ⟨b,6,none⟩=some (.bool s.hasHi)∧w.cell? ⟨b,7,none⟩=some (.bool s.openHi)∧w.cell? ⟨b,8,none⟩=some (.bool s.hi.t)∧w.cell? ⟨b,9,none⟩=some (.int .i64 s.hi.n)∧w.cell? ⟨b,10,none⟩=some (.string s.hi.s):=by
 refine⟨?_,?_,?_,?_,?_,?_,?_,?_,?_,?_,?_⟩<;>simp [World.cell?,h,Spn.cells]
theorem om (s:Spn)(x:Val):gG s x=(s.hasLo&&(decide (ai x s.lo<0)||decide (ai x s.lo=0)&&s.openLo)):=rfl
theorem i6 (s:Spn)(x:Val):oB s x=(!s.hasHi||decide (ai x s.hi<0)||decide (ai x s.hi=0) && !s.openHi):=rfl
theorem iZ (a b:Val):ai a b = -1∨ai a b=0∨ai a b=1:=by
 unfold ai eM js
 repeat' split
 all_goals simp
theorem nu (s:Spn)(x:Val)(w:World):Calls Tryz.prog 101 #[s.v,x.v] w fun e w'=>e = .returned (.bool (bI s x))∧Kept (fun _=>False) w w':=by
 have hk0:Kept (fun _=>False) w ((w.alloc (.cells s.cells tS)).alloc (.cells #[.bool x.t,.int .i64 x.n,.string x.s] 24)):=((Kept.refl _ _).alloc _).alloc _;have hb1:((w.alloc (.cells s.cells tS)).alloc (.cells #[.bool x.t,.int .i64 x.n,.string x.s] 24)).heap[w.heap.size]?=some (.cells s.cells tS (0,0)):=(((Kept.refl (fun _=>False) (w.alloc (.cells s.cells tS))).alloc _).block _ (by simp) (fun h=>h)).trans (ak w _);have hb2:((w.alloc (.cells s.cells tS)).alloc (.cells #[.bool x.t,.int .i64 x.n,.string x.s] 24)).heap[w.heap.size+1]?=some (.cells #[.bool x.t,.int .i64 x.n,.string x.s] 24 (0,0)):=by
  have:=ak (w.alloc (.cells s.cells tS)) (.cells #[.bool x.t,.int .i64 x.n,.string x.s] 24);rw [World.size_alloc]at this;exact this
 have yL:=FH hk0;have wL:=FH hb1;have wX:=FH hb2;clear hk0 hb1 hb2;dsimp only [Spn.v,Val.v];go_enter Tryz.func101,Tryz.ntmps101;go_upto_region 1 with (fail)
 obtain⟨W,hW⟩:∃W,W=(w.alloc (.cells s.cells tS)).alloc (.cells #[.bool x.t,.int .i64 x.n,.string x.s] 24):=⟨_,rfl⟩;dsimp only [Spn.cells]at hW;rw [←hW];dsimp only [Spn.cells]at yL wL wX;rw [←hW]at yL wL wX;generalize w.heap.size+1=bx at wX ⊢;generalize w.heap.size=bs at wL ⊢;clear hW;obtain⟨s0,s1,s2,s3,s4,s5,s6,s7,s8,s9,s10⟩:=Spn.at (s:=s) wL.out;obtain⟨x0,x1,x2,xf⟩:=aQ wX.out;cases hn:s.no
 ·rw [hn]at s0
  have HN:=FH hn;clear hn;go_upto_region 4 with ((go_at_call 103;refine(bT x s.lo _).mono ?_;rintro e1 w1 ⟨rfl,hk1⟩;have wN:=FH (yL.out.trans hk1 (fun _ h=>h.elim));have zR:=FH ((hk1.block bs (aw wL.out) (fun h=>h)).trans wL.out);have DA:=FH ((hk1.block bx (aw wX.out) (fun h=>h)).trans wX.out);clear hk1 s0 s1 s2 s3 s4 s5 s6 s7 s8 s9 s10 x0 x1 x2 xf))
  obtain⟨s0,s1,s2,s3,s4,s5,s6,s7,s8,s9,s10⟩:=Spn.at (s:=s) zR.out;obtain⟨x0,x1,x2,xf⟩:=aQ DA.out;have hc3:=iZ x s.lo;have xM:=FH (om s x);generalize ai x s.lo=c at xM hc3 ⊢;cases hl:s.hasLo
  ·rw [hl]at s1
   have xi:gG s x=false:=by rw [xM.out];simp [*]
   have xi:=FH xi;go_upto_region 7 with ((go_at_call 103;refine(bT x s.hi _).mono ?_;rintro e2 w2 ⟨rfl,hk2⟩;have wV:=FH (wN.out.trans hk2 (fun _ h=>h.elim));have AF:=FH ((hk2.block bs (aw zR.out) (fun h=>h)).trans zR.out);clear hk2 s0 s1 s2 s3 s4 s5 s6 s7 s8 s9 s10 x0 x1 x2 xf))
   obtain⟨s0,s1,s2,s3,s4,s5,s6,s7,s8,s9,s10⟩:=Spn.at (s:=s) AF.out;have hd3:=iZ x s.hi;have zd:=FH (i6 s x);generalize ai x s.hi=d at zd hd3 ⊢;cases hh:s.hasHi
   ·rw [hh]at s6
    go_wp2_with (fail);go_ret;exact⟨by unfold bI;rw [HN.out,xi.out,zd.out];simp [*],wV.out⟩
   ·rw [hh]at s6
    rcases hd3 with rfl|rfl|rfl
    ·skip
     go_wp2_with (fail);go_ret;exact⟨by unfold bI;rw [HN.out,xi.out,zd.out];simp [*],wV.out⟩
    ·cases ho:s.openHi
     ·rw [ho]at s7
      go_wp2_with (fail);go_ret;exact⟨by unfold bI;rw [HN.out,xi.out,zd.out];simp [*],wV.out⟩
     ·rw [ho]at s7
      go_wp2_with (fail);go_ret;exact⟨by unfold bI;rw [HN.out,xi.out,zd.out];simp [*],wV.out⟩
    ·skip
     go_wp2_with (fail);go_ret;exact⟨by unfold bI;rw [HN.out,xi.out,zd.out];simp [*],wV.out⟩
  ·rw [hl]at s1
   rcases hc3 with rfl|rfl|rfl
   ·skip
    have xi:gG s x=true:=by rw [xM.out];simp [*]
    have xi:=FH xi;go_wp2_with (fail);go_ret;exact⟨by unfold bI;rw [HN.out,xi.out];simp,wN.out⟩
   ·cases ho:s.openLo
    ·rw [ho]at s2
     have xi:gG s x=false:=by rw [xM.out];simp [*]
     have xi:=FH xi;go_upto_region 7 with ((go_at_call 103;refine(bT x s.hi _).mono ?_;rintro e2 w2 ⟨rfl,hk2⟩;have wV:=FH (wN.out.trans hk2 (fun _ h=>h.elim));have AF:=FH ((hk2.block bs (aw zR.out) (fun h=>h)).trans zR.out);clear hk2 s0 s1 s2 s3 s4 s5 s6 s7 s8 s9 s10 x0 x1 x2 xf))
     obtain⟨s0,s1,s2,s3,s4,s5,s6,s7,s8,s9,s10⟩:=Spn.at (s:=s) AF.out;have hd3:=iZ x s.hi;have zd:=FH (i6 s x);generalize ai x s.hi=d at zd hd3 ⊢;cases hh:s.hasHi
     ·rw [hh]at s6
      go_wp2_with (fail);go_ret;exact⟨by unfold bI;rw [HN.out,xi.out,zd.out];simp [*],wV.out⟩
     ·rw [hh]at s6
      rcases hd3 with rfl|rfl|rfl
      ·skip
       go_wp2_with (fail);go_ret;exact⟨by unfold bI;rw [HN.out,xi.out,zd.out];simp [*],wV.out⟩
      ·cases ho:s.openHi
       ·rw [ho]at s7
        go_wp2_with (fail);go_ret;exact⟨by unfold bI;rw [HN.out,xi.out,zd.out];simp [*],wV.out⟩
       ·rw [ho]at s7
        go_wp2_with (fail);go_ret;exact⟨by unfold bI;rw [HN.out,xi.out,zd.out];simp [*],wV.out⟩
      ·skip
       go_wp2_with (fail);go_ret;exact⟨by unfold bI;rw [HN.out,xi.out,zd.out];simp [*],wV.out⟩
    ·rw [ho]at s2
     have xi:gG s x=true:=by rw [xM.out];simp [*]
     have xi:=FH xi;go_wp2_with (fail);go_ret;exact⟨by unfold bI;rw [HN.out,xi.out];simp,wN.out⟩
   ·skip
    have xi:gG s x=false:=by rw [xM.out];simp [*]
    have xi:=FH xi;go_upto_region 7 with ((go_at_call 103;refine(bT x s.hi _).mono ?_;rintro e2 w2 ⟨rfl,hk2⟩;have wV:=FH (wN.out.trans hk2 (fun _ h=>h.elim));have AF:=FH ((hk2.block bs (aw zR.out) (fun h=>h)).trans zR.out);clear hk2 s0 s1 s2 s3 s4 s5 s6 s7 s8 s9 s10 x0 x1 x2 xf))
    obtain⟨s0,s1,s2,s3,s4,s5,s6,s7,s8,s9,s10⟩:=Spn.at (s:=s) AF.out;have hd3:=iZ x s.hi;have zd:=FH (i6 s x);generalize ai x s.hi=d at zd hd3 ⊢;cases hh:s.hasHi
    ·rw [hh]at s6
     go_wp2_with (fail);go_ret;exact⟨by unfold bI;rw [HN.out,xi.out,zd.out];simp [*],wV.out⟩
    ·rw [hh]at s6
     rcases hd3 with rfl|rfl|rfl
     ·skip
      go_wp2_with (fail);go_ret;exact⟨by unfold bI;rw [HN.out,xi.out,zd.out];simp [*],wV.out⟩
     ·cases ho:s.openHi
      ·rw [ho]at s7
       go_wp2_with (fail);go_ret;exact⟨by unfold bI;rw [HN.out,xi.out,zd.out];simp [*],wV.out⟩
      ·rw [ho]at s7
       go_wp2_with (fail);go_ret;exact⟨by unfold bI;rw [HN.out,xi.out,zd.out];simp [*],wV.out⟩
     ·skip
      go_wp2_with (fail);go_ret;exact⟨by unfold bI;rw [HN.out,xi.out,zd.out];simp [*],wV.out⟩
 ·rw [hn]at s0
  have Be:=FH (show bI s x=false by unfold bI;rw [hn];rfl);go_wp2_with (fail);go_ret;exact⟨by rw [Be.out];rfl,yL.out⟩
end Go.Proofs.YtdobimafhbfkhaaGreat
