/- Sums, differences and products of numbers (value.Add, Sub, Times), and what follows. -/
import Derived.Test.YtdobimafhbfkhaaGreatOY9
import Derived.Test.YtdobimafhbfkhaaGreatOY10
set_option maxHeartbeats 64000000
namespace Go.Proofs.YtdobimafhbfkhaaGreat
open Go.ChangeShapes Go.WideShapes Go.ChangeAt Go.RowKit
set_option maxRecDepth 100000
set_option linter.unusedSimpArgs false
def bO (n:Int):Prop := -9223372036854775808≤n∧n≤9223372036854775807
theorem lR {n:Int}:eP n=true↔bO n:=by unfold eP bO;simp
theorem we {n:Int}:eP n=false↔¬bO n:=by rw [←lR];simp
def lN (n:Int):Value:=.tuple #[.int .i64 (if eP n then n else 0),.bool (eP n)]
theorem eG {n:Int}(h:bO n):lN n = .tuple #[.int .i64 n,.bool true]:=by unfold lN;rw [lR.2 h];rfl
theorem iT {n:Int}(h:¬bO n):lN n = .tuple #[.int .i64 0,.bool false]:=by unfold lN;rw [we.2 h];rfl
theorem dP {n:Int}(h:bO n):wrap64 n=n:=by unfold bO at h;unfold wrap64;omega
theorem sJ {a b:Int}(ha:bO a)(hb:bO b)(w:World):Calls Tryz.prog 141 #[.int .i64 a,.int .i64 b] w fun e w'=>e = .returned (lN (a+b))∧Kept (fun _=>False) w w':=by
 by_cases h:bO (a+b)
 ·rw [eG h]
  obtain⟨c,hw⟩:∃c,wrap64 (a+b)=c:=⟨_,rfl⟩;have hn:a+b=c:=(dP h).symm.trans hw;have h1:(decide (a<c) == decide (0<b))=true:=by
   by_cases h2:0<b
   ·rw [F5 h2,F5 (show a<c by omega)];rfl
   ·rw [FY h2,FY (show ¬a<c by omega)];rfl
  rw [hn];clear ha hb h hn;go_enter Tryz.func141,Tryz.ntmps141;go_wp2_with fail
  all_goals first|(go_ret2;exact⟨rfl,Kept.refl _ _⟩)|(go_ret2;subst hw;exact⟨rfl,Kept.refl _ _⟩)|(exfalso;simp_all)
 ·rw [iT h]
  obtain⟨c,hw⟩:∃c,wrap64 (a+b)=c:=⟨_,rfl⟩;have h1:(decide (a<c) == decide (0<b))=false:=by
   unfold bO at *;unfold wrap64 at hw;by_cases h2:0<b
   ·rw [F5 h2,FY (show ¬a<c by omega)];rfl
   ·rw [FY h2,F5 (show a<c by omega)];rfl
  clear ha hb h;go_enter Tryz.func141,Tryz.ntmps141;go_wp2_with fail
  all_goals first|(go_ret2;exact⟨rfl,Kept.refl _ _⟩)|(go_ret2;subst hw;exact⟨rfl,Kept.refl _ _⟩)|(exfalso;simp_all)
theorem vsub_ok {a b:Int}(ha:bO a)(hb:bO b)(w:World):Calls Tryz.prog 142 #[.int .i64 a,.int .i64 b] w fun e w'=>e = .returned (lN (a-b))∧Kept (fun _=>False) w w':=by
 by_cases h:bO (a-b)
 ·rw [eG h]
  obtain⟨c,hw⟩:∃c,wrap64 (a-b)=c:=⟨_,rfl⟩;have hn:a-b=c:=(dP h).symm.trans hw;have h1:(decide (c<a) == decide (0<b))=true:=by
   by_cases h2:0<b
   ·rw [F5 h2,F5 (show c<a by omega)];rfl
   ·rw [FY h2,FY (show ¬c<a by omega)];rfl
  rw [hn];clear ha hb h hn;go_enter Tryz.func142,Tryz.ntmps142;go_wp2_with fail
  all_goals first|(go_ret2;exact⟨rfl,Kept.refl _ _⟩)|(go_ret2;subst hw;exact⟨rfl,Kept.refl _ _⟩)|(exfalso;simp_all)
 ·rw [iT h]
  obtain⟨c,hw⟩:∃c,wrap64 (a-b)=c:=⟨_,rfl⟩;have h1:(decide (c<a) == decide (0<b))=false:=by
   unfold bO at *;unfold wrap64 at hw;by_cases h2:0<b
   ·rw [F5 h2,FY (show ¬c<a by omega)];rfl
   ·rw [FY h2,F5 (show c<a by omega)];rfl
  clear ha hb h;go_enter Tryz.func142,Tryz.ntmps142;go_wp2_with fail
  all_goals first|(go_ret2;exact⟨rfl,Kept.refl _ _⟩)|(go_ret2;subst hw;exact⟨rfl,Kept.refl _ _⟩)|(exfalso;simp_all)
theorem tw {a b c:Int}(ha:bO a)(hb:bO b)(hb0:b≠0)(h:¬bO (a*b))(hc:wrap64 (a*b)=c)(hq:wrap64 (c.tdiv b)=a):b = -1∧a = -9223372036854775808:=by
 have e1:=Int.mul_tdiv_add_tmod c b;have e2:(c.tmod b).natAbs=c.natAbs%b.natAbs:=Int.natAbs_tmod c b;have e3:c.natAbs%b.natAbs<b.natAbs:=Nat.mod_lt _ (by omega);have e4:(c.tdiv b).natAbs=c.natAbs / b.natAbs:=Int.natAbs_tdiv c b;have e5:c.natAbs / b.natAbs≤c.natAbs:=Nat.div_le_self _ _;generalize c.tmod b=r at *;generalize hd:c.tdiv b=d at *;by_cases hi:bO d
 ·rw [dP hi]at hq
  subst hq;rw [Int.mul_comm b d]at e1;generalize d*b=p at *;unfold bO at *;unfold wrap64 at hc;omega
 ·have h0:d=9223372036854775808:=by unfold bO at *;unfold wrap64 at hc;omega
  subst h0;have ha2:a = -9223372036854775808:=by rw [←hq];unfold wrap64;omega
  refine⟨?_,ha2⟩;by_cases hb1:2≤b.natAbs
  ·exfalso
   have:c.natAbs / b.natAbs≤c.natAbs / 2:=Nat.div_le_div_left hb1 (by decide);unfold wrap64 at hc;omega
  ·have:b=1∨b = -1:=by omega
   rcases this with rfl|rfl
   ·exfalso
    unfold wrap64 at hc;omega
   ·rfl
theorem tj {a b:Int}(ha:bO a)(hb:bO b)(w:World):Calls Tryz.prog 143 #[.int .i64 a,.int .i64 b] w fun e w'=>e = .returned (lN (a*b))∧Kept (fun _=>False) w w':=by
 by_cases a0:a=0
 ·subst a0
  rw [eG (by simp [bO])];rw [Int.zero_mul];go_enter Tryz.func143,Tryz.ntmps143;go_wp2_with fail
  go_ret2
  exact⟨rfl,Kept.refl _ _⟩
 by_cases b0:b=0
 ·subst b0
  rw [eG (by simp [bO])];rw [Int.mul_zero];go_enter Tryz.func143,Tryz.ntmps143;go_wp2_with fail
  go_ret2
  exact⟨rfl,Kept.refl _ _⟩
 by_cases h:bO (a*b)
 ·rw [eG h]
  obtain⟨c,hw⟩:∃c,wrap64 (a*b)=c:=⟨_,rfl⟩;have hn:a*b=c:=(dP h).symm.trans hw;have hq:wrap64 (c.tdiv b)=a:=by rw [←hn,Int.mul_tdiv_cancel a b0];exact dP ha
  have e1:¬(a = -1∧b = -9223372036854775808):=by rintro⟨rfl,rfl⟩;simp [bO]at h
  have e2:¬(b = -1∧a = -9223372036854775808):=by rintro⟨rfl,rfl⟩;simp [bO]at h
  have E1:=FH e1;have E2:=FH e2;rw [hn];clear ha hb h e1 e2 hn;go_enter Tryz.func143,Tryz.ntmps143;go_wp2_with fail
  all_goals first|(go_ret2;exact⟨rfl,Kept.refl _ _⟩)|(exfalso;have e1:=E1.out;have e2:=E2.out;simp_all)
 ·rw [iT h]
  obtain⟨c,hw⟩:∃c,wrap64 (a*b)=c:=⟨_,rfl⟩;obtain⟨d,hd⟩:∃d,wrap64 (c.tdiv b)=d:=⟨_,rfl⟩;have E1:=FH (show d=a→b = -1∧a = -9223372036854775808 from fun e=>tw ha hb b0 h hw (hd.trans e));clear ha hb h;go_enter Tryz.func143,Tryz.ntmps143;go_wp2_with fail
  all_goals first|(go_ret2;exact⟨rfl,Kept.refl _ _⟩)|(exfalso;have e1:=E1.out;simp_all)
theorem rM {B w:World}{D:PH}{l:List HP}{v:Value}{n:Nat}{xs:List Value}(hrd:Rd w 3 v n xs)(hone:∀u∈xs,u.oneCell'=true)(hb:n*32≤140737488355328)(hs:Sat B D w l) :
  Calls Tryz.prog 90 #[v] w fun e w'=>∃v',e = .returned v'∧Sat B D w' (aD 24 3 v' n xs::l):=by
 obtain⟨i0,hi,hz0,hz1,hz2⟩:=info_parts iN;have hm:=hrd.2.1;obtain⟨ao,cap,rfl,_,_,hnone,hcase⟩:=hrd.2.2;cases ao with
 | none =>
  have h0:n=0:=by rcases hcase with h|⟨g,o,h,_⟩;exact h;cases h
  subst h0;have hx:xs = []:=List.eq_nil_of_length_eq_zero (by simpa using hrd.1);subst hx;have HS:=FH (hs.own_nil 24 3);clear hcase hnone hrd hz0 hz1 hz2 hi hb hs;go_enter Tryz.func90,Tryz.ntmps90;go_wp2_with fail;go_ret;exact⟨_,rfl,HS.out⟩
 | some a =>
  have hown:=Sat.own_fresh (e:=24) (size:=3) (n:=0) (cap:=0) (cs:=#[]) (xs:=[]) hs (by omega) (by omega) (by simp) (by simp) (by simp);have hrd2:Rd (w.alloc (.cells #[] 24)) 3 (.slice (some a) n cap) n xs:=hrd.kept ((Kept.refl (fun _=>False) _).alloc _) (fun _ _ h=>h);have HO:=FH hown;have HR:=FH hrd2;have HI:=FH (And.intro hi (And.intro hz0 (And.intro hz1 hz2)));clear hcase hnone hrd hz0 hz1 hz2 hi hs hown hrd2;go_enter Tryz.func90,Tryz.ntmps90;go_wp2_with (at_builtin;refine az _ rfl _ _ 26 rfl 24 i0 _ 3 32 Tryz.underlying26 HI.out.1 HI.out.2.1 HI.out.2.2.1 HI.out.2.2.2 rfl _ 0 [] rfl HO.out _ n xs rfl HR.out hone (by omega) (by omega) ?_;intro v' w' h1 h2;simp only [Nat.zero_add,List.nil_append]at h1;have H1:=FH h1;clear h1 h2);go_ret;exact⟨_,rfl,H1.out⟩
theorem iU {B w:World}{D:PH}{l:List HP}{v:Value}{r:List Val}(hrd:em w v r)(hb:r.length≤1000000)(hs:Sat B D w l) :
  Calls Tryz.prog 63 #[v] w fun e w'=>∃v',e = .returned v'∧Sat B D w' (aD 24 3 v' r.length (r.flatMap Val.cells)::l):=by
 have HC:=FH (rM hrd (fun u hu=>by obtain⟨x,_,hx⟩:=Gi.1 hu;exact Val.one x u hx) (by omega) hs);clear hrd hs;go_enter Tryz.func63,Tryz.ntmps63;go_wp2_with ((go_at_call 90;refine HC.out.mono ?_;rintro e1 w1 ⟨v1,rfl,hs1⟩;have wG:=FH hs1;clear hs1));go_ret;exact⟨_,rfl,wG.out⟩
theorem av {fn:Func}{a:Tmp}{ty:TypeId}(h:fn.results = #[.cell a ty])(tmps:Array Value)(w:World){g:Nat}{cs:Array Value}(ha:tmps.getD a undef = .pointer (some ⟨g,0,none⟩))(hl:(loadVar ty ⟨g,0,none⟩).run Tryz.prog w = .ok (.agg cs) w) :
  (results fn tmps).run Tryz.prog w = .ok (.agg cs) w:=by
 have ha':tmps[a]?.getD undef = .pointer (some ⟨g,0,none⟩):=by simpa using ha
 simp [results,h];rw [ha'];simp [asAddr,hl]
theorem bZ {fn:Func}{a b:Tmp}{ty:TypeId}(h:fn.results = #[.cell a ty,.tmp b])(tmps:Array Value)(w:World){g:Nat}{cs:Array Value}(ha:tmps.getD a undef = .pointer (some ⟨g,0,none⟩))(hl:(loadVar ty ⟨g,0,none⟩).run Tryz.prog w = .ok (.agg cs) w) :
  (results fn tmps).run Tryz.prog w = .ok (.tuple #[.agg cs,tmps.getD b undef]) w:=by
 have ha':tmps[a]?.getD undef = .pointer (some ⟨g,0,none⟩):=by simpa using ha
 simp [results,h];rw [ha'];simp [asAddr,hl]
theorem frz {w:World}{b:Nat}{cs:Array Value}{t:TypeId}(h:w.heap[b]?=some (.cells cs t (0,0))):∀j,w.frozen? ⟨b,j,none⟩=false:=fun j=>by simp [World.frozen?,h]
theorem ah {P:Program}{B w:World}{D:PH}{l:List HP}{ops:Array Oper}{rest:List Oper}{o:Oper}{a:Act}{Q:Exit→Act→World→Prop}(hgd:o.guard=none)(ty:TypeId)(x y:Operand)(ho:o.op = .store ty x y)(e:TypeId)(g:Nat)(hx:a.eval x = .pointer (some ⟨g,0,none⟩))(cs:List Value)(hy:a.eval y = .agg cs.toArray)(cur:Array Value)(hs:Sat B D w (blk g cur e::l))
  (hi:(P.info? ty).map (·.size)=some cs.length) (hfit:cur.size=cs.length) (h1:∀u∈cs,u.oneCell'=true)
  (h:∀w',Sat B D w' (blk g cs.toArray e::l)→wpList P ops Q rest (a.put o.dst undef) w'):wpList P ops Q (o::rest) a w :=
 cZ hgd ty x y ho e g 0 hx cs hy cur.toList (by rw [Array.toArray_toList];exact hs) hi (by simp [hfit]) h1 (fun w' hs'=>h w' (by
  rw [show lay cur.toList 0 cs=cs by unfold lay;rw [List.take_zero,List.nil_append,Nat.zero_add,Gk (by simp [hfit]),List.append_nil]]at hs';exact hs'))
theorem dD {w:World}{g o:Nat}{x:Val}(h:w.rangeAt g o x.cells):(loadVar tV ⟨g,o,none⟩).run Tryz.prog w = .ok (.agg x.cells.toArray) w:=run_loadVar_mid w g o _ _ _ h Tryz.underlying24 rfl (by kernel_rfl)
def kQ (B:World)(D:PH)(l:List HP)(v:Val)(b:Bool)(e:Ending)(w':World):Prop:=e = .returned (.tuple #[.agg v.cells.toArray,.bool b])∧Sat B D w' l
abbrev vZ : Array Value:=#[.bool false,.int .i64 0,.string ⟨#[]⟩]
def eu (n:Int):Val:=dB (if eP n then n else 0)
theorem to_1 {B w:World}{D:PH}{l:List HP}{rv:Value}{r:List Val}(col frm oth:Int)(v:Val)(hr:em w rv r)(hs:Sat B D w l) :
  Calls Tryz.prog 128 #[rv,.agg (SetM.cells ⟨col,1,frm,oth,v⟩).toArray] w (kQ B D l v true):=by
 obtain⟨W1,hW1,hs1⟩:=fu hs (SetM.cells ⟨col,1,frm,oth,v⟩).toArray vZ kl tV;have hk1:Kept (fun _=>False) w W1:=by rw [hW1];exact((Kept.refl _ _).alloc _).alloc _
 have HR:=FH (Rd.kept hr hk1 (fun _ _ h=>h));have wM:=FH hW1;have wG:=FH hs1;clear hk1 hr hs hW1 hs1;go_enter Tryz.func128,Tryz.ntmps128;go_upto_region 1 with fail
 rw [←wM.out];clear wM;generalize w.heap.size+1=b2 at *;generalize w.heap.size=b1 at *;obtain⟨x0,x1,x2,x3,x4,x5,x6⟩:=bP (wG.out.blk 0 rfl);have wH:=FH (wG.out.front 1 rfl);go_wp2_with (refine ah rfl _ _ _ rfl tV b2 rfl v.cells rfl vZ wH.out (by kernel_rfl) rfl (Val.one _) ?_;intro w6 hs6;have wK:=FH hs6;clear hs6 wH);refine bodyPost_ret (bZ rfl _ _ rfl (dD (aj (wK.out.blk 0 rfl)))) rfl ?_;exact⟨rfl,wK.out.drop.drop⟩
theorem to_2 {B w:World}{D:PH}{l:List HP}{rv:Value}{r:List Val}(col oth:Int)(v:Val){k:Nat}{x:Val}(hr:em w rv r)(hx:r[k]?=some x)(hs:Sat B D w l) :
  Calls Tryz.prog 128 #[rv,.agg (SetM.cells ⟨col,2,(k:Int),oth,v⟩).toArray] w (kQ B D l x true):=by
 obtain⟨W1,hW1,hs1⟩:=fu hs (SetM.cells ⟨col,2,(k:Int),oth,v⟩).toArray vZ kl tV;have hk1:Kept (fun _=>False) w W1:=by rw [hW1];exact((Kept.refl _ _).alloc _).alloc _
 have HR:=FH (Rd.kept hr hk1 (fun _ _ h=>h));have wM:=FH hW1;have wG:=FH hs1;have hn:r.length=r.length:=rfl;obtain⟨-,m1,ao,cap,rfl,-⟩:=hr;have hlt:=(FO.1 hx).1;obtain⟨rg,rog,rfl⟩:=cT HR.out hx rfl;obtain⟨y0,y1,y2⟩:=aE HR.out hx;generalize hN:r.length=N at *;have hkN:(k:Int)<(N:Int):=by omega
 clear hk1 hs hW1 hs1 HR hx hN hn;go_enter Tryz.func128,Tryz.ntmps128;go_upto_region 1 with fail
 rw [←wM.out];clear wM;generalize w.heap.size+1=b2 at *;generalize w.heap.size=b1 at *;obtain⟨x0,x1,x2,x3,x4,x5,x6⟩:=bP (wG.out.blk 0 rfl);have wH:=FH (wG.out.front 1 rfl);go_wp2_with (refine ah rfl _ _ _ rfl tV b2 rfl x.cells rfl vZ wH.out (by kernel_rfl) rfl (Val.one _) ?_;intro w6 hs6;have wK:=FH hs6;clear hs6 wH);refine bodyPost_ret (bZ rfl _ _ rfl (dD (aj (wK.out.blk 0 rfl)))) rfl ?_;exact⟨rfl,wK.out.drop.drop⟩
theorem to_3 {B w:World}{D:PH}{l:List HP}{rv:Value}{r:List Val}(col oth:Int)(v:Val){k:Nat}{x:Val}(hr:em w rv r)(hx:r[k]?=some x)(i1:bO x.n)(i2:bO v.n)(hs:Sat B D w l) :
  Calls Tryz.prog 128 #[rv,.agg (SetM.cells ⟨col,3,(k:Int),oth,v⟩).toArray] w (kQ B D l (eu (x.n+v.n)) (eP (x.n+v.n))):=by
 obtain⟨W1,hW1,hs1⟩:=fu hs (SetM.cells ⟨col,3,(k:Int),oth,v⟩).toArray vZ kl tV;have hk1:Kept (fun _=>False) w W1:=by rw [hW1];exact((Kept.refl _ _).alloc _).alloc _
 have HR:=FH (Rd.kept hr hk1 (fun _ _ h=>h));have wM:=FH hW1;have wG:=FH hs1;have hn:r.length=r.length:=rfl;obtain⟨-,m1,ao,cap,rfl,-⟩:=hr;have hlt:=(FO.1 hx).1;obtain⟨rg,rog,rfl⟩:=cT HR.out hx rfl;obtain⟨y0,y1,y2⟩:=aE HR.out hx;have HV:=FH (show ∀w,Calls Tryz.prog 141 #[.int .i64 x.n,.int .i64 v.n] w fun e w'=>e = .returned (.tuple #[.int .i64 (eu (x.n+v.n)).n,.bool (eP (x.n+v.n))])∧Kept (fun _=>False) w w' from fun w=>sJ i1 i2 w);generalize hN:r.length=N at *;have hkN:(k:Int)<(N:Int):=by omega
 clear hk1 hs hW1 hs1 HR i1 i2 hx hN hn;go_enter Tryz.func128,Tryz.ntmps128;go_upto_region 1 with fail
 rw [←wM.out];clear wM;generalize w.heap.size+1=b2 at *;generalize w.heap.size=b1 at *;obtain⟨x0,x1,x2,x3,x4,x5,x6⟩:=bP (wG.out.blk 0 rfl);go_upto_region 8 with fail
 refine aH [rq 0 9,rq 1 9,rq 2 9,rq 3 9,rq 4 9,rq 5 9,rq 6 9,rq 7 9,rq 8 9,(9,true,0),rq 10 999,rq 11 999,rq 12 999,rq 13 999,rq 14 999] ?_;iterate 9 (refine ae rfl rfl fun K hK=>?_;go_simp;apply hK;clear hK K)
 refine af rfl ?_;refine al rfl fun K hK=>?_;go_simp;refine(HV.out _).mono ?_;rintro e4 w4 ⟨rfl,hk4⟩;have wO:=FH (wG.out.kept ((Kept.refl (fun _=>False) W1).drew.trans hk4 (fun _ h=>h.elim)));clear hk4 x0 x1 x2 x3 x4 x5 x6 y0 y1 y2;refine hK _ _ ?_;clear hK K;refine wpList_nil ?_;apply And.intro
 ·go_simp
 iterate 5 (refine ae rfl rfl fun K hK=>?_;go_simp;apply hK;clear hK K)
 refine ag ?_;have wH:=FH (wO.out.front 1 rfl);go_wp2_with (refine ah rfl _ _ _ rfl tV b2 rfl (eu (x.n+v.n)).cells rfl vZ wH.out (by kernel_rfl) rfl (Val.one _) ?_;intro w6 hs6;have wK:=FH hs6;clear hs6 wH);refine bodyPost_ret (bZ rfl _ _ rfl (dD (aj (wK.out.blk 0 rfl)))) rfl ?_;exact⟨rfl,wK.out.drop.drop⟩
theorem to_4 {B w:World}{D:PH}{l:List HP}{rv:Value}{r:List Val}(col oth:Int)(v:Val){k:Nat}{x:Val}(hr:em w rv r)(hx:r[k]?=some x)(i1:bO x.n)(i2:bO v.n)(hs:Sat B D w l) :
  Calls Tryz.prog 128 #[rv,.agg (SetM.cells ⟨col,4,(k:Int),oth,v⟩).toArray] w (kQ B D l (eu (x.n-v.n)) (eP (x.n-v.n))):=by
 obtain⟨W1,hW1,hs1⟩:=fu hs (SetM.cells ⟨col,4,(k:Int),oth,v⟩).toArray vZ kl tV;have hk1:Kept (fun _=>False) w W1:=by rw [hW1];exact((Kept.refl _ _).alloc _).alloc _
 have HR:=FH (Rd.kept hr hk1 (fun _ _ h=>h));have wM:=FH hW1;have wG:=FH hs1;have hn:r.length=r.length:=rfl;obtain⟨-,m1,ao,cap,rfl,-⟩:=hr;have hlt:=(FO.1 hx).1;obtain⟨rg,rog,rfl⟩:=cT HR.out hx rfl;obtain⟨y0,y1,y2⟩:=aE HR.out hx;have HV:=FH (show ∀w,Calls Tryz.prog 142 #[.int .i64 x.n,.int .i64 v.n] w fun e w'=>e = .returned (.tuple #[.int .i64 (eu (x.n-v.n)).n,.bool (eP (x.n-v.n))])∧Kept (fun _=>False) w w' from fun w=>vsub_ok i1 i2 w);generalize hN:r.length=N at *;have hkN:(k:Int)<(N:Int):=by omega
 clear hk1 hs hW1 hs1 HR i1 i2 hx hN hn;go_enter Tryz.func128,Tryz.ntmps128;go_upto_region 1 with fail
 rw [←wM.out];clear wM;generalize w.heap.size+1=b2 at *;generalize w.heap.size=b1 at *;obtain⟨x0,x1,x2,x3,x4,x5,x6⟩:=bP (wG.out.blk 0 rfl);go_upto_region 10 with fail
 refine aH [rq 0 9,rq 1 9,rq 2 9,rq 3 9,rq 4 9,rq 5 9,rq 6 9,rq 7 9,rq 8 9,(9,true,0),rq 10 999,rq 11 999,rq 12 999,rq 13 999,rq 14 999] ?_;iterate 9 (refine ae rfl rfl fun K hK=>?_;go_simp;apply hK;clear hK K)
 refine af rfl ?_;refine al rfl fun K hK=>?_;go_simp;refine(HV.out _).mono ?_;rintro e4 w4 ⟨rfl,hk4⟩;have wO:=FH (wG.out.kept ((Kept.refl (fun _=>False) W1).drew.trans hk4 (fun _ h=>h.elim)));clear hk4 x0 x1 x2 x3 x4 x5 x6 y0 y1 y2;refine hK _ _ ?_;clear hK K;refine wpList_nil ?_;apply And.intro
 ·go_simp
 iterate 5 (refine ae rfl rfl fun K hK=>?_;go_simp;apply hK;clear hK K)
 refine ag ?_;have wH:=FH (wO.out.front 1 rfl);go_wp2_with (refine ah rfl _ _ _ rfl tV b2 rfl (eu (x.n-v.n)).cells rfl vZ wH.out (by kernel_rfl) rfl (Val.one _) ?_;intro w6 hs6;have wK:=FH hs6;clear hs6 wH);refine bodyPost_ret (bZ rfl _ _ rfl (dD (aj (wK.out.blk 0 rfl)))) rfl ?_;exact⟨rfl,wK.out.drop.drop⟩
theorem to_5 {B w:World}{D:PH}{l:List HP}{rv:Value}{r:List Val}(col oth:Int)(v:Val){k:Nat}{x:Val}(hr:em w rv r)(hx:r[k]?=some x)(i1:bO x.n)(i2:bO v.n)(hs:Sat B D w l) :
  Calls Tryz.prog 128 #[rv,.agg (SetM.cells ⟨col,5,(k:Int),oth,v⟩).toArray] w (kQ B D l (eu (x.n*v.n)) (eP (x.n*v.n))):=by
 obtain⟨W1,hW1,hs1⟩:=fu hs (SetM.cells ⟨col,5,(k:Int),oth,v⟩).toArray vZ kl tV;have hk1:Kept (fun _=>False) w W1:=by rw [hW1];exact((Kept.refl _ _).alloc _).alloc _
 have HR:=FH (Rd.kept hr hk1 (fun _ _ h=>h));have wM:=FH hW1;have wG:=FH hs1;have hn:r.length=r.length:=rfl;obtain⟨-,m1,ao,cap,rfl,-⟩:=hr;have hlt:=(FO.1 hx).1;obtain⟨rg,rog,rfl⟩:=cT HR.out hx rfl;obtain⟨y0,y1,y2⟩:=aE HR.out hx;have HV:=FH (show ∀w,Calls Tryz.prog 143 #[.int .i64 x.n,.int .i64 v.n] w fun e w'=>e = .returned (.tuple #[.int .i64 (eu (x.n*v.n)).n,.bool (eP (x.n*v.n))])∧Kept (fun _=>False) w w' from fun w=>tj i1 i2 w);generalize hN:r.length=N at *;have hkN:(k:Int)<(N:Int):=by omega
 clear hk1 hs hW1 hs1 HR i1 i2 hx hN hn;go_enter Tryz.func128,Tryz.ntmps128;go_upto_region 1 with fail
 rw [←wM.out];clear wM;generalize w.heap.size+1=b2 at *;generalize w.heap.size=b1 at *;obtain⟨x0,x1,x2,x3,x4,x5,x6⟩:=bP (wG.out.blk 0 rfl);go_upto_region 12 with fail
 refine aH [rq 0 9,rq 1 9,rq 2 9,rq 3 9,rq 4 9,rq 5 9,rq 6 9,rq 7 9,rq 8 9,(9,true,0),rq 10 999,rq 11 999,rq 12 999,rq 13 999,rq 14 999] ?_;iterate 9 (refine ae rfl rfl fun K hK=>?_;go_simp;apply hK;clear hK K)
 refine af rfl ?_;refine al rfl fun K hK=>?_;go_simp;refine(HV.out _).mono ?_;rintro e4 w4 ⟨rfl,hk4⟩;have wO:=FH (wG.out.kept ((Kept.refl (fun _=>False) W1).drew.trans hk4 (fun _ h=>h.elim)));clear hk4 x0 x1 x2 x3 x4 x5 x6 y0 y1 y2;refine hK _ _ ?_;clear hK K;refine wpList_nil ?_;apply And.intro
 ·go_simp
 iterate 5 (refine ae rfl rfl fun K hK=>?_;go_simp;apply hK;clear hK K)
 refine ag ?_;have wH:=FH (wO.out.front 1 rfl);go_wp2_with (refine ah rfl _ _ _ rfl tV b2 rfl (eu (x.n*v.n)).cells rfl vZ wH.out (by kernel_rfl) rfl (Val.one _) ?_;intro w6 hs6;have wK:=FH hs6;clear hs6 wH);refine bodyPost_ret (bZ rfl _ _ rfl (dD (aj (wK.out.blk 0 rfl)))) rfl ?_;exact⟨rfl,wK.out.drop.drop⟩
theorem to_6 {B w:World}{D:PH}{l:List HP}{rv:Value}{r:List Val}(col:Int)(v:Val){k m:Nat}{x y:Val}(hr:em w rv r)(hx:r[k]?=some x)(hy:r[m]?=some y)(i1:bO x.n)(i2:bO y.n)(hs:Sat B D w l) :
  Calls Tryz.prog 128 #[rv,.agg (SetM.cells ⟨col,6,(k:Int),(m:Int),v⟩).toArray] w (kQ B D l (eu (x.n+y.n)) (eP (x.n+y.n))):=by
 obtain⟨W1,hW1,hs1⟩:=fu hs (SetM.cells ⟨col,6,(k:Int),(m:Int),v⟩).toArray vZ kl tV;have hk1:Kept (fun _=>False) w W1:=by rw [hW1];exact((Kept.refl _ _).alloc _).alloc _
 have HR:=FH (Rd.kept hr hk1 (fun _ _ h=>h));have wM:=FH hW1;have wG:=FH hs1;have hn:r.length=r.length:=rfl;obtain⟨-,m1,ao,cap,rfl,-⟩:=hr;have hlt:=(FO.1 hx).1;obtain⟨rg,rog,rfl⟩:=cT HR.out hx rfl;obtain⟨y0,y1,y2⟩:=aE HR.out hx;have hlt2:=(FO.1 hy).1;obtain⟨z0,z1,z2⟩:=aE HR.out hy;have HV:=FH (show ∀w,Calls Tryz.prog 141 #[.int .i64 x.n,.int .i64 y.n] w fun e w'=>e = .returned (.tuple #[.int .i64 (eu (x.n+y.n)).n,.bool (eP (x.n+y.n))])∧Kept (fun _=>False) w w' from fun w=>sJ i1 i2 w);generalize hN:r.length=N at *;have hkN:(k:Int)<(N:Int):=by omega
 have hmN:(m:Int)<(N:Int):=by omega
 clear hk1 hs hW1 hs1 HR i1 i2 hx hN hn hy;go_enter Tryz.func128,Tryz.ntmps128;go_upto_region 1 with fail
 rw [←wM.out];clear wM;generalize w.heap.size+1=b2 at *;generalize w.heap.size=b1 at *;obtain⟨x0,x1,x2,x3,x4,x5,x6⟩:=bP (wG.out.blk 0 rfl);go_upto_region 14 with fail
 refine aH [rq 0 12,rq 1 12,rq 2 12,rq 3 12,rq 4 12,rq 5 12,rq 6 12,rq 7 12,rq 8 12,rq 9 12,rq 10 12,rq 11 12,(12,true,0),rq 13 999,rq 14 999,rq 15 999,rq 16 999,rq 17 999] ?_;iterate 12 (refine ae rfl rfl fun K hK=>?_;go_simp;apply hK;clear hK K)
 refine af rfl ?_;refine al rfl fun K hK=>?_;go_simp;refine(HV.out _).mono ?_;rintro e4 w4 ⟨rfl,hk4⟩;have wO:=FH (wG.out.kept ((Kept.refl (fun _=>False) W1).drew.trans hk4 (fun _ h=>h.elim)));clear hk4 x0 x1 x2 x3 x4 x5 x6 y0 y1 y2 z0 z1 z2;refine hK _ _ ?_;clear hK K;refine wpList_nil ?_;apply And.intro
 ·go_simp
 iterate 5 (refine ae rfl rfl fun K hK=>?_;go_simp;apply hK;clear hK K)
 refine ag ?_;have wH:=FH (wO.out.front 1 rfl);go_wp2_with (refine ah rfl _ _ _ rfl tV b2 rfl (eu (x.n+y.n)).cells rfl vZ wH.out (by kernel_rfl) rfl (Val.one _) ?_;intro w6 hs6;have wK:=FH hs6;clear hs6 wH);refine bodyPost_ret (bZ rfl _ _ rfl (dD (aj (wK.out.blk 0 rfl)))) rfl ?_;exact⟨rfl,wK.out.drop.drop⟩
def toN (r:List Val)(s:SetM):Int:=if s.op=3 then (fE r s.frm).n+s.v.n else if s.op=4 then (fE r s.frm).n-s.v.n else if s.op=5 then (fE r s.frm).n*s.v.n else (fE r s.frm).n+(fE r s.oth).n
def toV (r:List Val)(s:SetM):Val:=if s.op=1 then s.v else if s.op=2 then fE r s.frm else eu (toN r s)
def toB (r:List Val)(s:SetM):Bool:=if s.op=1 then true else if s.op=2 then true else eP (toN r s)
theorem mh (r:List Val)(s:SetM):toS r s=if toB r s then some (toV r s)else none:=by
 unfold toS toB toV;by_cases h1:s.op=1
 ·rw [if_pos h1,if_pos h1,if_pos h1];rfl
 rw [if_neg h1,if_neg h1,if_neg h1];by_cases h2:s.op=2
 ·rw [if_pos h2,if_pos h2,if_pos h2];rfl
 rw [if_neg h2,if_neg h2,if_neg h2]
 show(if eP (toN r s)=true then some (dB (toN r s))else none)=_;cases h:eP (toN r s)
 ·rfl
 ·simp only [if_pos]
  unfold eu;rw [h];rfl
theorem fO {c:List Bool}{r:List Val}{i k:Int}(hk:k≠0)(h:bK c i=k)(hl:r.length=c.length):∃m:Nat,i=(m:Int)∧∃x,r[m]?=some x:=by
 unfold bK at h;split at h
 ·exact absurd h.symm hk
 ·next hn =>
  refine⟨i.toNat,by omega,r[i.toNat]'(by omega),FP _⟩
theorem ce {r:List Val}{m:Nat}{x:Val}(h:r[m]?=some x):fE r (m:Int)=x:=by
 unfold fE;rw [F6,FW,h];rfl
theorem to_ok {B w:World}{D:PH}{l:List HP}{rv:Value}{c:List Bool}{r:List Val}{s:SetM}(hr:em w rv r)(hl:r.length=c.length)(hm:bH c s=true)(fr:∀a∈r,bO a.n)(fs:bO s.v.n)(hs:Sat B D w l) :
  Calls Tryz.prog 128 #[rv,.agg s.cells.toArray] w (kQ B D l (toV r s) (toB r s)):=by
 obtain⟨col,op,frm,oth,v⟩:=s;unfold bH at hm;simp only at hm fs;split at hm
 ·cases hm
 next hn =>
 have hk0:bK c col≠0:=fun e=>hn (.inr e);by_cases o1:op=1
 ·subst o1
  exact to_1 col frm oth v hr hs
 rw [if_neg o1]at hm;by_cases o2:op=2
 ·subst o2
  rw [if_pos rfl]at hm;obtain⟨k,rfl,x,hx⟩:=fO hk0 (of_decide_eq_true hm) hl;have:=to_2 col oth v hr hx hs;rw [show x=toV r ⟨col,2,k,oth,v⟩from(ce hx).symm]at this;exact this
 rw [if_neg o2]at hm;by_cases o6:op=6
 ·subst o6
  simp at hm;obtain⟨k,rfl,x,hx⟩:=fO (by decide) hm.1.2 hl;obtain⟨m,rfl,y,hy⟩:=fO (by decide) hm.2 hl;have:=to_6 col v hr hx hy (fr x (FQ hx)) (fr y (FQ hy)) hs;rw [←ce hx,←ce hy]at this;exact this
 split at hm
 ·next ho =>
  simp at hm;obtain⟨k,rfl,x,hx⟩:=fO (by decide) hm.1.1.2 hl;have fx:=fr x (FQ hx);rcases ho with rfl|rfl|rfl
  ·have:=to_3 col oth v hr hx fx fs hs
   rw [←ce hx]at this;exact this
  ·have:=to_4 col oth v hr hx fx fs hs
   rw [←ce hx]at this;exact this
  ·have:=to_5 col oth v hr hx fx fs hs
   rw [←ce hx]at this;exact this
 ·cases hm
def Val.fit (v:Val):Prop:=bO v.n∧v.s.size≤maxLen
abbrev bG (r:List Val):Prop:=∀a∈r,a.fit
def RowF (D:PH)(v:Value)(r:List Val):Prop:=wl D v r∧bG r
def SetsF (D:PH)(v:Value)(l:List SetM):Prop:=SetsAt D v l∧∀s∈l,s.v.fit
abbrev vT (D:PH)(v:Value)(c:List Bool):Prop:=RdP D 1 v c.length (c.flatMap dt)
theorem RowF.mono {D D':PH}(le:PH.le D D'){v:Value}{r:List Val}(h:RowF D v r):RowF D' v r:=⟨h.1.mono le,h.2⟩
theorem SetsF.mono {D D':PH}(le:PH.le D D'){v:Value}{l:List SetM}(h:SetsF D v l):SetsF D' v l:=⟨RdP.mono h.1 le,h.2⟩
theorem fz (r:List Val):∀(l:List SetM) (s:SetM) (out:List Val),fI r (l ++ [s]) out=(fI r l out).bind fun o=>(toS r s).map fun v=>o.set s.col.toNat v
 | [],s,out=>by
  show(match toS r s with|none=>none|some v=>some (out.set s.col.toNat v))=(toS r s).map _
  cases toS r s<;>rfl
 | x::l,s,out=>by
  show(match toS r x with|none=>none|some v=>fI r (l ++ [s]) (out.set x.col.toNat v))=Option.bind (match toS r x with|none=>none|some v=>fI r l (out.set x.col.toNat v)) _
  cases toS r x with
  | none=>rfl
  | some v=>exact fz r l s _
theorem oh (r:List Val):∀(m l:List SetM) (out:List Val),fI r l out=none→fI r (l++m) out=none
 | [],l,out,h=>by simpa using h
 | s::m,l,out,h=>by
  have:l++s::m=(l ++ [s])++m:=by simp
  rw [this];exact oh r m _ out (by rw [fz,h];rfl)
theorem nD {r:List Val}{l:List SetM}{out:List Val}(n:Nat)(h:fI r (l.take n) out=none):fI r l out=none:=by
 have:=oh r (l.drop n) _ out h
 rwa [Gj]at this
theorem cd {c:List Bool}{r:List Val}(h:aX c r=true):r.length=c.length∧cj c=true:=by unfold aX at h;simp at h;exact⟨h.1.2,h.1.1⟩
theorem gg {c:List Bool}{l:List SetM}(h:cG c l=true):l.length≤3∧∀s∈l,bH c s=true:=by unfold cG at h;simp at h;exact⟨h.1.1.2,h.1.2⟩
theorem qH {c:List Bool}{s:SetM}(h:bH c s=true):s.col<(c.length:Int):=by
 unfold bH at h;split at h
 ·cases h
 ·next hn =>
  have h2:¬bK c s.col=0:=fun e=>hn (.inr e);have h3:¬(s.col<0∨(c.length:Int)≤s.col):=fun e=>h2 (by unfold bK;rw [if_pos e]);omega
theorem updT_1 {c:List Bool}{r:List Val}{l:List SetM}(h:aX c r=false):cM c r l=([],1):=by unfold cM;rw [h];rfl
theorem wu {c:List Bool}{r:List Val}{l:List SetM}(h:aX c r=true)(h2:cG c l=false):cM c r l=([],20):=by unfold cM;rw [h,(cd h).2,h2];rfl
theorem oF {c:List Bool}{r:List Val}{l:List SetM}(h:aX c r=true)(h2:cG c l=true)(h3:fI r l r=none):cM c r l=([],21):=by unfold cM;rw [h,(cd h).2,h2,h3];rfl
theorem pB {c:List Bool}{r o:List Val}{l:List SetM}(h:aX c r=true)(h2:cG c l=true)(h3:fI r l r=some o):cM c r l=(o,0):=by unfold cM;rw [h,(cd h).2,h2,h3];rfl
theorem vD {c:List Bool}{l:List SetM}(h:cj c=true):eK c l=if cG c l then 0 else 20:=by unfold eK;rw [h];rfl
theorem pg {r:List Val}{s:SetM}(hr:bG r)(hs:s.v.fit):(toV r s).fit:=by
 unfold toV;split
 ·exact hs
 ·split
  ·unfold fE
   rw [FW];cases h:r[s.frm.toNat]? with
   | none=>exact⟨show bO 0 by simp [bO],Gp _⟩
   | some x=>exact hr x (FQ h)
  ·refine⟨?_,Gp _⟩
   unfold eu dB
   show bO (if eP _=true then _ else 0);split
   ·next h=>exact lR.1 h
   ·simp [bO]
theorem pE {r:List Val}{i:Nat}{v:Val}(h:bG r)(hv:v.fit):bG (r.set i v):=fun a ha=>(List.mem_or_eq_of_mem_set ha).elim (h a) (fun e=>e▸hv)
def vk (B:World)(D:PH)(l:List HP)(x:List Val×Int)(e:Ending)(w':World):Prop:=∃v',e = .returned (.tuple #[v',.int .i64 x.2])∧bG x.1∧Sat B D w' (aD tV 3 v' x.1.length (x.1.flatMap Val.cells)::l)
theorem ue {B w:World}{D:PH}{l:List HP}{cv rv sv:Value}{c:List Bool}{r:List Val}{sets:List SetM}(hc:vT D cv c)(hr:RowF D rv r)(hs:SetsF D sv sets)(h:Sat B D w l) :
  Calls Tryz.prog 113 #[.agg #[cv],rv,sv] w (vk B D l (cM c r sets)):=by
 obtain⟨W1,hW1,hs1⟩:=Sat.hide (h.alloc #[cv] bN);have wM:=FH hW1;have wG:=FH hs1;have HC:=FH hc;have wQ:=FH hr;have x9:=FH hs;obtain⟨X,hX⟩:∃X,cM c r sets=X:=⟨_,rfl⟩;rw [hX];have zS:=FH hX;have yK:=FH (mW (RdP.rd hc hs1) (RdP.rd hr.1 hs1));clear h hW1 hs1 hc hr hs hX;go_enter Tryz.func113,Tryz.ntmps113;go_upto_region 1 with fail
 rw [←wM.out];clear wM;generalize w.heap.size=bt at wG ⊢;obtain⟨b0,bf⟩:=aC (wG.out.blk 0 rfl);cases hf:aX c r
 ·rw [hf]at yK
  obtain rfl:X=([],1):=zS.out.symm.trans (updT_1 hf);clear hf;go_wp2_with (go_at_call 35;refine yK.out.mono ?_;rintro e1 w1 ⟨rfl,hk2⟩;have wJ:=FH (wG.out.kept hk2);clear hk2 b0 bf wG)
  go_ret2
  exact⟨_,rfl,(fun _ h=>by cases h),wJ.out.drop.own_nil tV 3⟩
 rw [hf]at yK;have HF:=FH hf;clear hf;go_upto_region 3 with (go_at_call 35;refine yK.out.mono ?_;rintro e1 w1 ⟨rfl,hk2⟩;have wJ:=FH (wG.out.kept hk2);clear hk2 b0 bf wG)
 clear yK;obtain⟨b0,bf⟩:=aC (wJ.out.blk 0 rfl);have xF:=FH (ig (RdP.rd HC.out wJ.out) (RdP.rd x9.out.1 wJ.out));rw [vD (cd HF.out).2]at xF;cases hf:cG c sets
 ·rw [hf]at xF
  simp only [Bool.false_eq_true,if_false]at xF;obtain rfl:X=([],20):=zS.out.symm.trans (wu HF.out hf);clear hf;go_wp2_with (go_at_call 34;refine xF.out.mono ?_;rintro e1 w2 ⟨rfl,hk2⟩;have wI:=FH (wJ.out.kept hk2);clear hk2 b0 bf wJ)
  go_ret2
  exact⟨_,rfl,(fun _ h=>by cases h),wI.out.drop.own_nil tV 3⟩
 rw [hf]at xF;simp only [if_true]at xF;have xm:=FH hf;clear hf;go_upto_region 6 with (go_at_call 34;refine xF.out.mono ?_;rintro e1 w2 ⟨rfl,hk2⟩;have wI:=FH (wJ.out.kept hk2);clear hk2 b0 bf wJ)
 clear xF;have hrlen:r.length≤4:=by have h1:=cd HF.out;have h2:=h1.2;unfold cj at h2;simp at h2;omega
 have hrpos:1≤r.length:=by have h1:=cd HF.out;have h2:=h1.2;unfold cj at h2;simp at h2;omega
 have yy:=FH (iU (RdP.rd wQ.out.1 wI.out) (by omega) wI.out);go_upto_region 7 with (go_at_call 63;refine yy.out.mono ?_;rintro e1 w3 ⟨v1,rfl,hs4⟩;have wO:=FH hs4;clear hs4)
 clear yy wI;obtain⟨ao,cap,rfl⟩:=wO.out.own_shape;obtain⟨g,rfl⟩:∃g,ao=some ⟨g,0,none⟩:=by
  rcases (wO.out.own 0 rfl).2.2 with ⟨h1,h2⟩|⟨g,c2,cur,h1,_⟩
  ·omega
  ·cases h1;exact⟨g,rfl⟩
 have Av:=FH (RdP.rd x9.out.1 wO.out);obtain⟨-,m2,so,scap,rfl,-⟩:=RdP.rd x9.out.1 wO.out;unfold maxLen at m2;obtain⟨N,hN⟩:∃N,sets.length=N:=⟨_,rfl⟩;obtain⟨M,hM⟩:∃M,r.length=M:=⟨_,rfl⟩;have HN:=FH hN;have HM:=FH hM;have wW:=FH (show RdP D 7 (.slice so N scap) N (sets.flatMap SetM.cells)from hN▸x9.out.1);have xW:=FH x9.out.2;rw [hN]at m2 x9 ⊢;rw [hM]at wO hrlen hrpos ⊢;have EU:=FH (show N≤3 by have:=(gg xm.out).1;omega);clear hN hM Av x9;go_wp2_with fail
 go_loopw [28] (fun idx wr=>∃(j:Nat) (o:List Val),idx = .int .i64 j∧j≤N∧fI r (sets.take j) r=some o∧o.length=M∧bG o∧Sat B D wr (aD tV 3 (.slice (some ⟨g,0,none⟩) M cap) M (o.flatMap Val.cells)::blk bt #[cv] bN::l)) (fun idx _=>N-(intOf idx).toNat)
 case atStart=>exact⟨0,r,rfl,Gp _,rfl,HM.out,wQ.out.2,wO.out⟩
 case round =>
  obtain⟨j,o,rfl,hj,hu,hol,hof,hs⟩:=hrel;have HU:=FH hu;have BM:=FH hol;have CB:=FH hof;have HS:=FH hs;clear hu hol hof hs wO;by_cases hlt:j<N
  ·obtain⟨x,hx⟩:∃x,sets[j]?=some x:=⟨sets[j]'(by rw [HN.out];exact hlt),FP _⟩
   have HX:=FH (show sets.take (j+1)=sets.take j ++ [x] by rw [F3,hx];rfl);have hmay:=(gg xm.out).2 x (FQ hx);have yx:=FH hmay;have CC:=FH (xW.out x (FQ hx));have hcol:=kr (cd HF.out).2 hmay;obtain⟨k,hk⟩:∃k:Nat,x.col=(k:Int):=⟨x.col.toNat,by omega⟩;obtain⟨g1,o1,rfl,hr1⟩:=bi SetM.len (wW.out.rd HS.out) hx HN.out;have zj:=FH (lD hr1);obtain⟨W3,hW3,hs5⟩:=Sat.hide (HS.out.alloc x.cells.toArray kl);have Cy:=FH hW3;have wT:=FH hs5;have HK:=FH hk;have hkM:k<M:=by
    have h1:=cd HF.out;have h2:=qH hmay;rw [HM.out]at h1;omega
   clear hx hmay hr1 hW3 hs5 hk hcol HS;go_upto_region 10 with (first|(refine aV rfl _ _ rfl _ _ rfl _ zj.out ?_)|(refine cI rfl _ _ _ rfl x.cells _ _ rfl rfl (by kernel_rfl) rfl (SetM.one x) ?_))
   rw [←Cy.out];clear Cy zj;generalize wr.heap.size=bs at wT ⊢;have Ai:=FH (to_ok (RdP.rd wQ.out.1 wT.out) (cd HF.out).1 yx.out (fun a ha=>(wQ.out.2 a ha).1) CC.out.1 wT.out);obtain⟨x0,x1,x2,x3,x4,x5,x6⟩:=bP (wT.out.blk 0 rfl);cases hb:toB r x
   ·rw [hb]at Ai
    have yw:=FH (nD (out:=r) (j+1) (by rw [HX.out,fz,HU.out,mh,hb];rfl));obtain rfl:X=([],21):=zS.out.symm.trans (oF HF.out xm.out yw.out);clear hb;go_wp2_with (first|(go_at_call 128;refine Ai.out.mono ?_;rintro e5 w5 ⟨rfl,hs6⟩;have wK:=FH hs6;clear hs6 Ai wT x0 x1 x2 x3 x4 x5 x6)|(refine cI rfl _ _ _ rfl (toV r x).cells _ _ rfl rfl (by kernel_rfl) rfl (Val.one _) ?_))
    go_ret2
    exact⟨_,rfl,(fun _ h=>by cases h),(((wK.out.alloc (toV r x).cells.toArray tV).drop.drop.drop.drop).own_nil tV 3)⟩
   ·rw [hb]at Ai
    have BN:=FH (show fI r (sets.take (j+1)) r=some (o.set k (toV r x)) by rw [HX.out,fz,HU.out,mh,hb,HK.out];rfl);have Cp:=FH (pg wQ.out.2 CC.out);clear hb;have hkM2:(k:Int)<(M:Int):=by omega
    go_upto_region 11 with (first|(go_at_call 128;refine Ai.out.mono ?_;rintro e5 w5 ⟨rfl,hs6⟩;have wK:=FH (hs6.alloc (toV r x).cells.toArray tV);clear hs6 Ai wT x0 x1 x2 x3 x4 x5 x6)|(refine cI rfl _ _ _ rfl (toV r x).cells _ _ rfl rfl (by kernel_rfl) rfl (Val.one _) ?_))
    obtain⟨W6,hW6⟩:∃W,W=w5.alloc (.cells (toV r x).cells.toArray tV):=⟨_,rfl⟩;rw [←hW6]at wK ⊢;generalize w5.heap.size=bv at wK ⊢;clear hW6;obtain⟨x0,x1,x2,x3,x4,x5,x6⟩:=bP (wK.out.blk 1 rfl);rw [HK.out]at x0;have yW:=FH (dD (aj (wK.out.blk 0 rfl)));have wH:=FH (wK.out.drop.drop);clear wK;go_wp2_with (first|(refine aV rfl _ _ rfl _ _ rfl _ yW.out ?_)|(refine fM Val.len Val.one rfl _ _ _ rfl tV g _ k M cap rfl (by omega) (toV r x) rfl o wH.out (by kernel_rfl) hkM BM.out ?_;intro w7 hs7;have wP:=FH hs7;clear hs7 wH yW x0 x1 x2 x3 x4 x5 x6));go_roundw
    case rel=>exact⟨j+1,_,by go_num,by omega,BN.out,by rw [FV];exact BM.out,pE CB.out Cp.out,wP.out⟩
    case measure=>simp [intOf];omega
  ·obtain rfl:j=N:=by omega
   have BN:=FH (show fI r sets r=some o by rw [←HU.out,FS (Nat.le_of_eq HN.out)]);obtain rfl:X=(o,0):=zS.out.symm.trans (pB HF.out xm.out BN.out);go_wp2_with fail
   go_ret2
   exact⟨_,rfl,CB.out,by rw [BM.out];exact(HS.out.swap.drop)⟩
end Go.Proofs.YtdobimafhbfkhaaGreat
