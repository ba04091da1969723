/- What a set's column comes to (row.to). (printed by genok5.py) -/
import Derived.Test.YtdobimafhbfkhaaGreatOT13
set_option maxHeartbeats 64000000
namespace Go.Proofs.YtdobimafhbfkhaaGreat
open Go.ChangeShapes Go.WideShapes Go.ChangeAt Go.RowKit
set_option maxRecDepth 100000
set_option linter.unusedSimpArgs false
theorem fB {w:World}{g o:Nat}{x:Val}(h:w.rangeAt g o x.cells):(loadVar tV ⟨g,o,none⟩).run Tryz.prog w = .ok (.agg x.cells.toArray) w:=run_loadVar_mid w g o _ _ _ h Tryz.underlying24 rfl (by kernel_rfl)
def kR (B:World)(D:PH)(l:List HP)(v:Val)(b:Bool)(e:Ending)(w':World):Prop:=e = .returned (.tuple #[.agg v.cells.toArray,.bool b])∧Sat B D w' l
abbrev vZ : Array Value:=#[.bool false,.int .i64 0,.string ⟨#[]⟩]
def gu (n:Int):Val:=dq (if fP n then n else 0)
theorem to_1 {B w:World}{D:PH}{l:List HP}{rv:Value}{r:List Val}(col frm oth:Int)(v:Val)(hr:eh w rv r)(hs:Sat B D w l) :
  Calls Tryz.prog 128 #[rv,.agg (SetM.cells ⟨col,1,frm,oth,v⟩).toArray] w (kR B D l v true):=by
 obtain⟨W1,hW1,hs1⟩:=eT hs (SetM.cells ⟨col,1,frm,oth,v⟩).toArray vZ cI tV
 have hk1:Kept (fun _=>False) w W1:=by rw [hW1];exact((Kept.refl _ _).alloc _).alloc _
 have HR:=CM (Rd.kept hr hk1 (fun _ _ h=>h))
 have ul:=CM hW1
 have uk:=CM hs1
 clear hk1 hr hs hW1 hs1
 go_enter Tryz.func128,Tryz.ntmps128
 go_upto_region 1 with fail
 rw [←ul.out]
 clear ul
 generalize w.heap.size+1=b2 at *
 generalize w.heap.size=b1 at *
 obtain⟨x0,x1,x2,x3,x4,x5,x6⟩:=aC (uk.out.blk 0 rfl)
 have uo:=CM (uk.out.front 1 rfl)
 go_wp2_with (refine br rfl _ _ _ rfl tV b2 rfl v.cells rfl vZ uo.out (by kernel_rfl) rfl (Val.one _) ?_;intro w6 hs6;have uu:=CM hs6;clear hs6 uo)
 refine bodyPost_ret (db rfl _ _ rfl (fB (aA (uu.out.blk 0 rfl)))) rfl ?_
 exact⟨rfl,uu.out.drop.drop⟩
theorem to_2 {B w:World}{D:PH}{l:List HP}{rv:Value}{r:List Val}(col oth:Int)(v:Val){k:Nat}{x:Val}(hr:eh w rv r)(hx:r[k]?=some x)(hs:Sat B D w l) :
  Calls Tryz.prog 128 #[rv,.agg (SetM.cells ⟨col,2,(k:Int),oth,v⟩).toArray] w (kR B D l x true):=by
 obtain⟨W1,hW1,hs1⟩:=eT hs (SetM.cells ⟨col,2,(k:Int),oth,v⟩).toArray vZ cI tV
 have hk1:Kept (fun _=>False) w W1:=by rw [hW1];exact((Kept.refl _ _).alloc _).alloc _
 have HR:=CM (Rd.kept hr hk1 (fun _ _ h=>h))
 have ul:=CM hW1
 have uk:=CM hs1
 have hn:r.length=r.length:=rfl
 obtain⟨-,m1,ao,cap,rfl,-⟩:=hr
 have hlt:=(List.getElem?_eq_some_iff.1 hx).1
 obtain⟨rg,rog,rfl⟩:=ef HR.out hx rfl
 obtain⟨y0,y1,y2⟩:=aM HR.out hx
 generalize hN:r.length=N at *
 have hkN:(k:Int)<(N:Int):=by omega
 clear hk1 hs hW1 hs1 HR hx hN hn
 go_enter Tryz.func128,Tryz.ntmps128
 go_upto_region 1 with fail
 rw [←ul.out]
 clear ul
 generalize w.heap.size+1=b2 at *
 generalize w.heap.size=b1 at *
 obtain⟨x0,x1,x2,x3,x4,x5,x6⟩:=aC (uk.out.blk 0 rfl)
 have uo:=CM (uk.out.front 1 rfl)
 go_wp2_with (refine br rfl _ _ _ rfl tV b2 rfl x.cells rfl vZ uo.out (by kernel_rfl) rfl (Val.one _) ?_;intro w6 hs6;have uu:=CM hs6;clear hs6 uo)
 refine bodyPost_ret (db rfl _ _ rfl (fB (aA (uu.out.blk 0 rfl)))) rfl ?_
 exact⟨rfl,uu.out.drop.drop⟩
theorem to_3 {B w:World}{D:PH}{l:List HP}{rv:Value}{r:List Val}(col oth:Int)(v:Val){k:Nat}{x:Val}(hr:eh w rv r)(hx:r[k]?=some x)(i1:cL x.n)(i2:cL v.n)(hs:Sat B D w l) :
  Calls Tryz.prog 128 #[rv,.agg (SetM.cells ⟨col,3,(k:Int),oth,v⟩).toArray] w (kR B D l (gu (x.n+v.n)) (fP (x.n+v.n))):=by
 obtain⟨W1,hW1,hs1⟩:=eT hs (SetM.cells ⟨col,3,(k:Int),oth,v⟩).toArray vZ cI tV
 have hk1:Kept (fun _=>False) w W1:=by rw [hW1];exact((Kept.refl _ _).alloc _).alloc _
 have HR:=CM (Rd.kept hr hk1 (fun _ _ h=>h))
 have ul:=CM hW1
 have uk:=CM hs1
 have hn:r.length=r.length:=rfl
 obtain⟨-,m1,ao,cap,rfl,-⟩:=hr
 have hlt:=(List.getElem?_eq_some_iff.1 hx).1
 obtain⟨rg,rog,rfl⟩:=ef HR.out hx rfl
 obtain⟨y0,y1,y2⟩:=aM HR.out hx
 have HV:=CM (show ∀w,Calls Tryz.prog 141 #[.int .i64 x.n,.int .i64 v.n] w fun e w'=>e = .returned (.tuple #[.int .i64 (gu (x.n+v.n)).n,.bool (fP (x.n+v.n))])∧Kept (fun _=>False) w w' from fun w=>qB i1 i2 w)
 generalize hN:r.length=N at *
 have hkN:(k:Int)<(N:Int):=by omega
 clear hk1 hs hW1 hs1 HR i1 i2 hx hN hn
 go_enter Tryz.func128,Tryz.ntmps128
 go_upto_region 1 with fail
 rw [←ul.out]
 clear ul
 generalize w.heap.size+1=b2 at *
 generalize w.heap.size=b1 at *
 obtain⟨x0,x1,x2,x3,x4,x5,x6⟩:=aC (uk.out.blk 0 rfl)
 go_upto_region 8 with fail
 refine af [(0,false,9),(1,false,9),(2,false,9),(3,false,9),(4,false,9),(5,false,9),(6,false,9),(7,false,9),(8,false,9),(9,true,0),(10,false,999),(11,false,999),(12,false,999),(13,false,999),(14,false,999)] (by kernel_rfl) (by kernel_rfl) ?_
 iterate 9 (refine ae rfl rfl (fun K hK=>?_);go_simp;refine hK _ ?_;clear hK K)
 refine ag rfl ?_
 refine au rfl (fun K hK=>?_)
 go_simp
 refine(HV.out _).mono ?_
 rintro e4 w4 ⟨rfl,hk4⟩
 have uy:=CM (uk.out.kept ((Kept.refl (fun _=>False) W1).drew.trans hk4 (fun _ h=>h.elim)))
 clear hk4 x0 x1 x2 x3 x4 x5 x6 y0 y1 y2
 refine hK _ _ ?_
 clear hK K
 refine wpList_nil ?_
 refine And.intro ?_ ?_
 ·go_simp
 iterate 5 (refine ae rfl rfl (fun K hK=>?_);go_simp;refine hK _ ?_;clear hK K)
 refine ah ?_
 have uo:=CM (uy.out.front 1 rfl)
 go_wp2_with (refine br rfl _ _ _ rfl tV b2 rfl (gu (x.n+v.n)).cells rfl vZ uo.out (by kernel_rfl) rfl (Val.one _) ?_;intro w6 hs6;have uu:=CM hs6;clear hs6 uo)
 refine bodyPost_ret (db rfl _ _ rfl (fB (aA (uu.out.blk 0 rfl)))) rfl ?_
 exact⟨rfl,uu.out.drop.drop⟩
theorem to_4 {B w:World}{D:PH}{l:List HP}{rv:Value}{r:List Val}(col oth:Int)(v:Val){k:Nat}{x:Val}(hr:eh w rv r)(hx:r[k]?=some x)(i1:cL x.n)(i2:cL v.n)(hs:Sat B D w l) :
  Calls Tryz.prog 128 #[rv,.agg (SetM.cells ⟨col,4,(k:Int),oth,v⟩).toArray] w (kR B D l (gu (x.n-v.n)) (fP (x.n-v.n))):=by
 obtain⟨W1,hW1,hs1⟩:=eT hs (SetM.cells ⟨col,4,(k:Int),oth,v⟩).toArray vZ cI tV
 have hk1:Kept (fun _=>False) w W1:=by rw [hW1];exact((Kept.refl _ _).alloc _).alloc _
 have HR:=CM (Rd.kept hr hk1 (fun _ _ h=>h))
 have ul:=CM hW1
 have uk:=CM hs1
 have hn:r.length=r.length:=rfl
 obtain⟨-,m1,ao,cap,rfl,-⟩:=hr
 have hlt:=(List.getElem?_eq_some_iff.1 hx).1
 obtain⟨rg,rog,rfl⟩:=ef HR.out hx rfl
 obtain⟨y0,y1,y2⟩:=aM HR.out hx
 have HV:=CM (show ∀w,Calls Tryz.prog 142 #[.int .i64 x.n,.int .i64 v.n] w fun e w'=>e = .returned (.tuple #[.int .i64 (gu (x.n-v.n)).n,.bool (fP (x.n-v.n))])∧Kept (fun _=>False) w w' from fun w=>vsub_ok i1 i2 w)
 generalize hN:r.length=N at *
 have hkN:(k:Int)<(N:Int):=by omega
 clear hk1 hs hW1 hs1 HR i1 i2 hx hN hn
 go_enter Tryz.func128,Tryz.ntmps128
 go_upto_region 1 with fail
 rw [←ul.out]
 clear ul
 generalize w.heap.size+1=b2 at *
 generalize w.heap.size=b1 at *
 obtain⟨x0,x1,x2,x3,x4,x5,x6⟩:=aC (uk.out.blk 0 rfl)
 go_upto_region 10 with fail
 refine af [(0,false,9),(1,false,9),(2,false,9),(3,false,9),(4,false,9),(5,false,9),(6,false,9),(7,false,9),(8,false,9),(9,true,0),(10,false,999),(11,false,999),(12,false,999),(13,false,999),(14,false,999)] (by kernel_rfl) (by kernel_rfl) ?_
 iterate 9 (refine ae rfl rfl (fun K hK=>?_);go_simp;refine hK _ ?_;clear hK K)
 refine ag rfl ?_
 refine au rfl (fun K hK=>?_)
 go_simp
 refine(HV.out _).mono ?_
 rintro e4 w4 ⟨rfl,hk4⟩
 have uy:=CM (uk.out.kept ((Kept.refl (fun _=>False) W1).drew.trans hk4 (fun _ h=>h.elim)))
 clear hk4 x0 x1 x2 x3 x4 x5 x6 y0 y1 y2
 refine hK _ _ ?_
 clear hK K
 refine wpList_nil ?_
 refine And.intro ?_ ?_
 ·go_simp
 iterate 5 (refine ae rfl rfl (fun K hK=>?_);go_simp;refine hK _ ?_;clear hK K)
 refine ah ?_
 have uo:=CM (uy.out.front 1 rfl)
 go_wp2_with (refine br rfl _ _ _ rfl tV b2 rfl (gu (x.n-v.n)).cells rfl vZ uo.out (by kernel_rfl) rfl (Val.one _) ?_;intro w6 hs6;have uu:=CM hs6;clear hs6 uo)
 refine bodyPost_ret (db rfl _ _ rfl (fB (aA (uu.out.blk 0 rfl)))) rfl ?_
 exact⟨rfl,uu.out.drop.drop⟩
theorem to_5 {B w:World}{D:PH}{l:List HP}{rv:Value}{r:List Val}(col oth:Int)(v:Val){k:Nat}{x:Val}(hr:eh w rv r)(hx:r[k]?=some x)(i1:cL x.n)(i2:cL v.n)(hs:Sat B D w l) :
  Calls Tryz.prog 128 #[rv,.agg (SetM.cells ⟨col,5,(k:Int),oth,v⟩).toArray] w (kR B D l (gu (x.n*v.n)) (fP (x.n*v.n))):=by
 obtain⟨W1,hW1,hs1⟩:=eT hs (SetM.cells ⟨col,5,(k:Int),oth,v⟩).toArray vZ cI tV
 have hk1:Kept (fun _=>False) w W1:=by rw [hW1];exact((Kept.refl _ _).alloc _).alloc _
 have HR:=CM (Rd.kept hr hk1 (fun _ _ h=>h))
 have ul:=CM hW1
 have uk:=CM hs1
 have hn:r.length=r.length:=rfl
 obtain⟨-,m1,ao,cap,rfl,-⟩:=hr
 have hlt:=(List.getElem?_eq_some_iff.1 hx).1
 obtain⟨rg,rog,rfl⟩:=ef HR.out hx rfl
 obtain⟨y0,y1,y2⟩:=aM HR.out hx
 have HV:=CM (show ∀w,Calls Tryz.prog 143 #[.int .i64 x.n,.int .i64 v.n] w fun e w'=>e = .returned (.tuple #[.int .i64 (gu (x.n*v.n)).n,.bool (fP (x.n*v.n))])∧Kept (fun _=>False) w w' from fun w=>ru i1 i2 w)
 generalize hN:r.length=N at *
 have hkN:(k:Int)<(N:Int):=by omega
 clear hk1 hs hW1 hs1 HR i1 i2 hx hN hn
 go_enter Tryz.func128,Tryz.ntmps128
 go_upto_region 1 with fail
 rw [←ul.out]
 clear ul
 generalize w.heap.size+1=b2 at *
 generalize w.heap.size=b1 at *
 obtain⟨x0,x1,x2,x3,x4,x5,x6⟩:=aC (uk.out.blk 0 rfl)
 go_upto_region 12 with fail
 refine af [(0,false,9),(1,false,9),(2,false,9),(3,false,9),(4,false,9),(5,false,9),(6,false,9),(7,false,9),(8,false,9),(9,true,0),(10,false,999),(11,false,999),(12,false,999),(13,false,999),(14,false,999)] (by kernel_rfl) (by kernel_rfl) ?_
 iterate 9 (refine ae rfl rfl (fun K hK=>?_);go_simp;refine hK _ ?_;clear hK K)
 refine ag rfl ?_
 refine au rfl (fun K hK=>?_)
 go_simp
 refine(HV.out _).mono ?_
 rintro e4 w4 ⟨rfl,hk4⟩
 have uy:=CM (uk.out.kept ((Kept.refl (fun _=>False) W1).drew.trans hk4 (fun _ h=>h.elim)))
 clear hk4 x0 x1 x2 x3 x4 x5 x6 y0 y1 y2
 refine hK _ _ ?_
 clear hK K
 refine wpList_nil ?_
 refine And.intro ?_ ?_
 ·go_simp
 iterate 5 (refine ae rfl rfl (fun K hK=>?_);go_simp;refine hK _ ?_;clear hK K)
 refine ah ?_
 have uo:=CM (uy.out.front 1 rfl)
 go_wp2_with (refine br rfl _ _ _ rfl tV b2 rfl (gu (x.n*v.n)).cells rfl vZ uo.out (by kernel_rfl) rfl (Val.one _) ?_;intro w6 hs6;have uu:=CM hs6;clear hs6 uo)
 refine bodyPost_ret (db rfl _ _ rfl (fB (aA (uu.out.blk 0 rfl)))) rfl ?_
 exact⟨rfl,uu.out.drop.drop⟩
theorem to_6 {B w:World}{D:PH}{l:List HP}{rv:Value}{r:List Val}(col:Int)(v:Val){k m:Nat}{x y:Val}(hr:eh w rv r)(hx:r[k]?=some x)(hy:r[m]?=some y)(i1:cL x.n)(i2:cL y.n)(hs:Sat B D w l) :
  Calls Tryz.prog 128 #[rv,.agg (SetM.cells ⟨col,6,(k:Int),(m:Int),v⟩).toArray] w (kR B D l (gu (x.n+y.n)) (fP (x.n+y.n))):=by
 obtain⟨W1,hW1,hs1⟩:=eT hs (SetM.cells ⟨col,6,(k:Int),(m:Int),v⟩).toArray vZ cI tV
 have hk1:Kept (fun _=>False) w W1:=by rw [hW1];exact((Kept.refl _ _).alloc _).alloc _
 have HR:=CM (Rd.kept hr hk1 (fun _ _ h=>h))
 have ul:=CM hW1
 have uk:=CM hs1
 have hn:r.length=r.length:=rfl
 obtain⟨-,m1,ao,cap,rfl,-⟩:=hr
 have hlt:=(List.getElem?_eq_some_iff.1 hx).1
 obtain⟨rg,rog,rfl⟩:=ef HR.out hx rfl
 obtain⟨y0,y1,y2⟩:=aM HR.out hx
 have hlt2:=(List.getElem?_eq_some_iff.1 hy).1
 obtain⟨z0,z1,z2⟩:=aM HR.out hy
 have HV:=CM (show ∀w,Calls Tryz.prog 141 #[.int .i64 x.n,.int .i64 y.n] w fun e w'=>e = .returned (.tuple #[.int .i64 (gu (x.n+y.n)).n,.bool (fP (x.n+y.n))])∧Kept (fun _=>False) w w' from fun w=>qB i1 i2 w)
 generalize hN:r.length=N at *
 have hkN:(k:Int)<(N:Int):=by omega
 have hmN:(m:Int)<(N:Int):=by omega
 clear hk1 hs hW1 hs1 HR i1 i2 hx hN hn hy
 go_enter Tryz.func128,Tryz.ntmps128
 go_upto_region 1 with fail
 rw [←ul.out]
 clear ul
 generalize w.heap.size+1=b2 at *
 generalize w.heap.size=b1 at *
 obtain⟨x0,x1,x2,x3,x4,x5,x6⟩:=aC (uk.out.blk 0 rfl)
 go_upto_region 14 with fail
 refine af [(0,false,12),(1,false,12),(2,false,12),(3,false,12),(4,false,12),(5,false,12),(6,false,12),(7,false,12),(8,false,12),(9,false,12),(10,false,12),(11,false,12),(12,true,0),(13,false,999),(14,false,999),(15,false,999),(16,false,999),(17,false,999)] (by kernel_rfl) (by kernel_rfl) ?_
 iterate 12 (refine ae rfl rfl (fun K hK=>?_);go_simp;refine hK _ ?_;clear hK K)
 refine ag rfl ?_
 refine au rfl (fun K hK=>?_)
 go_simp
 refine(HV.out _).mono ?_
 rintro e4 w4 ⟨rfl,hk4⟩
 have uy:=CM (uk.out.kept ((Kept.refl (fun _=>False) W1).drew.trans hk4 (fun _ h=>h.elim)))
 clear hk4 x0 x1 x2 x3 x4 x5 x6 y0 y1 y2 z0 z1 z2
 refine hK _ _ ?_
 clear hK K
 refine wpList_nil ?_
 refine And.intro ?_ ?_
 ·go_simp
 iterate 5 (refine ae rfl rfl (fun K hK=>?_);go_simp;refine hK _ ?_;clear hK K)
 refine ah ?_
 have uo:=CM (uy.out.front 1 rfl)
 go_wp2_with (refine br rfl _ _ _ rfl tV b2 rfl (gu (x.n+y.n)).cells rfl vZ uo.out (by kernel_rfl) rfl (Val.one _) ?_;intro w6 hs6;have uu:=CM hs6;clear hs6 uo)
 refine bodyPost_ret (db rfl _ _ rfl (fB (aA (uu.out.blk 0 rfl)))) rfl ?_
 exact⟨rfl,uu.out.drop.drop⟩
def toN (r:List Val)(s:SetM):Int:=if s.op=3 then (eP r s.frm).n+s.v.n else if s.op=4 then (eP r s.frm).n-s.v.n else if s.op=5 then (eP r s.frm).n*s.v.n else (eP r s.frm).n+(eP r s.oth).n
def toV (r:List Val)(s:SetM):Val:=if s.op=1 then s.v else if s.op=2 then eP r s.frm else gu (toN r s)
def toB (r:List Val)(s:SetM):Bool:=if s.op=1 then true else if s.op=2 then true else fP (toN r s)
theorem qb (r:List Val)(s:SetM):toS r s=if toB r s then some (toV r s)else none:=by
 unfold toS toB toV
 by_cases h1:s.op=1
 ·rw [if_pos h1,if_pos h1,if_pos h1];rfl
 rw [if_neg h1,if_neg h1,if_neg h1]
 by_cases h2:s.op=2
 ·rw [if_pos h2,if_pos h2,if_pos h2];rfl
 rw [if_neg h2,if_neg h2,if_neg h2]
 show(if fP (toN r s)=true then some (dq (toN r s))else none)=_
 cases h:fP (toN r s)
 ·rfl
 ·simp only [if_pos]
  unfold gu
  rw [h];rfl
theorem jX {c:List Bool}{r:List Val}{i k:Int}(hk:k≠0)(h:aB c i=k)(hl:r.length=c.length):∃m:Nat,i=(m:Int)∧∃x,r[m]?=some x:=by
 unfold aB at h
 split at h
 ·exact absurd h.symm hk
 ·next hn =>
  refine⟨i.toNat,by omega,r[i.toNat]'(by omega),List.getElem?_eq_getElem _⟩
theorem d7 {r:List Val}{m:Nat}{x:Val}(h:r[m]?=some x):eP r (m:Int)=x:=by
 unfold eP
 rw [Int.toNat_natCast,List.getD_eq_getElem?_getD,h];rfl
theorem to_ok {B w:World}{D:PH}{l:List HP}{rv:Value}{c:List Bool}{r:List Val}{s:SetM}(hr:eh w rv r)(hl:r.length=c.length)(hm:aP c s=true)(fr:∀a∈r,cL a.n)(fs:cL s.v.n)(hs:Sat B D w l) :
  Calls Tryz.prog 128 #[rv,.agg s.cells.toArray] w (kR B D l (toV r s) (toB r s)):=by
 obtain⟨col,op,frm,oth,v⟩:=s
 unfold aP at hm
 simp only at hm fs
 split at hm
 ·cases hm
 next hn =>
 have hk0:aB c col≠0:=fun e=>hn (.inr e)
 by_cases o1:op=1
 ·subst o1
  exact to_1 col frm oth v hr hs
 rw [if_neg o1]at hm
 by_cases o2:op=2
 ·subst o2
  rw [if_pos rfl]at hm
  obtain⟨k,rfl,x,hx⟩:=jX hk0 (of_decide_eq_true hm) hl
  have:=to_2 col oth v hr hx hs
  rw [show x=toV r ⟨col,2,k,oth,v⟩from(d7 hx).symm]at this
  exact this
 rw [if_neg o2]at hm
 by_cases o6:op=6
 ·subst o6
  simp at hm
  obtain⟨k,rfl,x,hx⟩:=jX (by decide) hm.1.2 hl
  obtain⟨m,rfl,y,hy⟩:=jX (by decide) hm.2 hl
  have:=to_6 col v hr hx hy (fr x (List.mem_of_getElem? hx)) (fr y (List.mem_of_getElem? hy)) hs
  rw [←d7 hx,←d7 hy]at this
  exact this
 split at hm
 ·next ho =>
  simp at hm
  obtain⟨k,rfl,x,hx⟩:=jX (by decide) hm.1.1.2 hl
  have fx:=fr x (List.mem_of_getElem? hx)
  rcases ho with rfl|rfl|rfl
  ·have:=to_3 col oth v hr hx fx fs hs
   rw [←d7 hx]at this
   exact this
  ·have:=to_4 col oth v hr hx fx fs hs
   rw [←d7 hx]at this
   exact this
  ·have:=to_5 col oth v hr hx fx fs hs
   rw [←d7 hx]at this
   exact this
 ·cases hm
end Go.Proofs.YtdobimafhbfkhaaGreat
