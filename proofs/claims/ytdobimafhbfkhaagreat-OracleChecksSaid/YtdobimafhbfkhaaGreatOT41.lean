/- A part of a predicate (pred.checker.part). (printed by genlkpart.py) -/
import Derived.Test.YtdobimafhbfkhaaGreatOT10
set_option maxHeartbeats 64000000
namespace Go.Proofs.YtdobimafhbfkhaaGreat
open Go.ChangeShapes Go.WideShapes Go.ChangeAt Go.RowKit
set_option maxRecDepth 100000
set_option linter.unusedSimpArgs false
def dt (B:World)(D:PH)(l:List HP)(ck:Nat)(cv:Value)(b:Bool)(e:Ending)(w':World):Prop:=e = .returned (.tuple #[])∧Sat B D w' (blk ck #[cv,.bool b] tCk::l)
theorem Sat.setCk {B w:World}{D:PH}{l:List HP}{ck:Nat}{cv:Value}{b:Bool}(hs:Sat B D w (Proofs.YtdobimafhbfkhaaGreat.blk ck #[cv,.bool b] tCk::l))(u:Bool):Sat B D (w.setCell ⟨ck,1,none⟩ (.bool u)) (Proofs.YtdobimafhbfkhaaGreat.blk ck #[cv,.bool u] tCk::l):=hs.set 1 (.bool u)
theorem part_1 {B w:World}{D:PH}{l:List HP}{ck:Nat}{cv:Value}{b:Bool}{c:List Bool}(op col:Int)(hop:op=1)(v w0:Val)(la:Option Addr)(n lc:Nat)(subs:List PredT)(hn:n=subs.length)(hc:∀W,Kept (fun _=>False) w W→bu W cv c)(h:Sat B D w (blk ck #[cv,.bool b] tCk::l)) :
  Calls Tryz.prog 46 #[.pointer (some ⟨ck,0,none⟩),.agg (PredE.cells ⟨op,col,v,w0,la,n,lc,subs⟩).toArray] w (dt B D l ck cv (b || !ar c (.mk op col v w0 subs))):=by
 subst hop
 obtain⟨W1,hW1,hs1⟩:=Sat.hide (h.alloc (PredE.cells ⟨1,col,v,w0,la,n,lc,subs⟩).toArray tPr)
 have uq:=CM (show Kept (fun _=>False) w W1 by rw [hW1];exact(Kept.refl _ _).alloc _)
 have ul:=CM hW1
 have uk:=CM hs1
 have HC:=CM hc
 clear h hW1 hs1 hc
 by_cases h0:n=0
 ·subst h0
  obtain rfl:subs = []:=List.length_eq_zero_iff.1 hn.symm
  have HO:=CM (show ar c (.mk 1 col v w0 [])=true by unfold ar;simp only [PredT.op,PredT.col,PredT.v,PredT.w,PredT.l];simp)
  rw [HO.out]
  clear HO hn
  cases b
  all_goals
   go_enter Tryz.func46,Tryz.ntmps46
   go_upto_region 1 with fail
   rw [←ul.out]
   clear ul
   generalize w.heap.size=bx at uk ⊢
   obtain⟨x0,x1,x2,x3,x4,x5,x6,x7,x8⟩:=bh (uk.out.blk 0 rfl)
   obtain⟨d0,d1,df⟩:=bE (uk.out.blk 1 rfl)
   go_wp2_with fail
   go_end0
   first
    | exact⟨rfl,(Sat.setCk uk.out.swap _).swap.drop⟩
    | exact⟨rfl,(show(!((n:Int) == 0))=true by simp;omega)▸(Sat.setCk uk.out.swap (!((n:Int) == 0))).swap.drop⟩
    | exact⟨rfl,(show(!((n:Int) == 1))=true by simp;omega)▸(Sat.setCk uk.out.swap (!((n:Int) == 1))).swap.drop⟩
 ·have h1:¬(n:Int)=0:=by omega
  have h2:0<n:=by omega
  have h3:(n:Int) > 0:=by omega
  have he:subs.isEmpty=false:=by cases subs with|nil=>simp at hn;omega|cons _ _=>rfl
  have HO:=CM (show ar c (.mk 1 col v w0 subs)=false by unfold ar;simp only [PredT.op,PredT.col,PredT.v,PredT.w,PredT.l];simp [he])
  rw [HO.out]
  clear HO hn
  cases b
  all_goals
   go_enter Tryz.func46,Tryz.ntmps46
   go_upto_region 1 with fail
   rw [←ul.out]
   clear ul
   generalize w.heap.size=bx at uk ⊢
   obtain⟨x0,x1,x2,x3,x4,x5,x6,x7,x8⟩:=bh (uk.out.blk 0 rfl)
   obtain⟨d0,d1,df⟩:=bE (uk.out.blk 1 rfl)
   clear he
   go_wp2_with fail
   go_end0
   first
    | exact⟨rfl,(Sat.setCk uk.out.swap _).swap.drop⟩
    | exact⟨rfl,(show(!((n:Int) == 0))=true by simp;omega)▸(Sat.setCk uk.out.swap (!((n:Int) == 0))).swap.drop⟩
    | exact⟨rfl,(show(!((n:Int) == 1))=true by simp;omega)▸(Sat.setCk uk.out.swap (!((n:Int) == 1))).swap.drop⟩
theorem part_2 {B w:World}{D:PH}{l:List HP}{ck:Nat}{cv:Value}{b:Bool}{c:List Bool}(op col:Int)(hop:op=2)(v w0:Val)(la:Option Addr)(n lc:Nat)(subs:List PredT)(hn:n=subs.length)(hc:∀W,Kept (fun _=>False) w W→bu W cv c)(h:Sat B D w (blk ck #[cv,.bool b] tCk::l)) :
  Calls Tryz.prog 46 #[.pointer (some ⟨ck,0,none⟩),.agg (PredE.cells ⟨op,col,v,w0,la,n,lc,subs⟩).toArray] w (dt B D l ck cv (b || !ar c (.mk op col v w0 subs))):=by
 subst hop
 obtain⟨W1,hW1,hs1⟩:=Sat.hide (h.alloc (PredE.cells ⟨2,col,v,w0,la,n,lc,subs⟩).toArray tPr)
 have uq:=CM (show Kept (fun _=>False) w W1 by rw [hW1];exact(Kept.refl _ _).alloc _)
 have ul:=CM hW1
 have uk:=CM hs1
 have HC:=CM hc
 clear h hW1 hs1 hc
 by_cases h0:n=0
 ·subst h0
  obtain rfl:subs = []:=List.length_eq_zero_iff.1 hn.symm
  have HO:=CM (show ar c (.mk 2 col v w0 [])=true by unfold ar;simp only [PredT.op,PredT.col,PredT.v,PredT.w,PredT.l];simp)
  rw [HO.out]
  clear HO hn
  cases b
  all_goals
   go_enter Tryz.func46,Tryz.ntmps46
   go_upto_region 1 with fail
   rw [←ul.out]
   clear ul
   generalize w.heap.size=bx at uk ⊢
   obtain⟨x0,x1,x2,x3,x4,x5,x6,x7,x8⟩:=bh (uk.out.blk 0 rfl)
   obtain⟨d0,d1,df⟩:=bE (uk.out.blk 1 rfl)
   go_wp2_with fail
   go_end0
   first
    | exact⟨rfl,(Sat.setCk uk.out.swap _).swap.drop⟩
    | exact⟨rfl,(show(!((n:Int) == 0))=true by simp;omega)▸(Sat.setCk uk.out.swap (!((n:Int) == 0))).swap.drop⟩
    | exact⟨rfl,(show(!((n:Int) == 1))=true by simp;omega)▸(Sat.setCk uk.out.swap (!((n:Int) == 1))).swap.drop⟩
 ·have h1:¬(n:Int)=0:=by omega
  have h2:0<n:=by omega
  have h3:(n:Int) > 0:=by omega
  have he:subs.isEmpty=false:=by cases subs with|nil=>simp at hn;omega|cons _ _=>rfl
  have HO:=CM (show ar c (.mk 2 col v w0 subs)=false by unfold ar;simp only [PredT.op,PredT.col,PredT.v,PredT.w,PredT.l];simp [he])
  rw [HO.out]
  clear HO hn
  cases b
  all_goals
   go_enter Tryz.func46,Tryz.ntmps46
   go_upto_region 1 with fail
   rw [←ul.out]
   clear ul
   generalize w.heap.size=bx at uk ⊢
   obtain⟨x0,x1,x2,x3,x4,x5,x6,x7,x8⟩:=bh (uk.out.blk 0 rfl)
   obtain⟨d0,d1,df⟩:=bE (uk.out.blk 1 rfl)
   clear he
   go_wp2_with fail
   go_end0
   first
    | exact⟨rfl,(Sat.setCk uk.out.swap _).swap.drop⟩
    | exact⟨rfl,(show(!((n:Int) == 0))=true by simp;omega)▸(Sat.setCk uk.out.swap (!((n:Int) == 0))).swap.drop⟩
    | exact⟨rfl,(show(!((n:Int) == 1))=true by simp;omega)▸(Sat.setCk uk.out.swap (!((n:Int) == 1))).swap.drop⟩
theorem part_3 {B w:World}{D:PH}{l:List HP}{ck:Nat}{cv:Value}{b:Bool}{c:List Bool}(op col:Int)(hop:op=3)(v w0:Val)(la:Option Addr)(n lc:Nat)(subs:List PredT)(hn:n=subs.length)(hc:∀W,Kept (fun _=>False) w W→bu W cv c)(h:Sat B D w (blk ck #[cv,.bool b] tCk::l)) :
  Calls Tryz.prog 46 #[.pointer (some ⟨ck,0,none⟩),.agg (PredE.cells ⟨op,col,v,w0,la,n,lc,subs⟩).toArray] w (dt B D l ck cv (b || !ar c (.mk op col v w0 subs))):=by
 subst hop
 obtain⟨W1,hW1,hs1⟩:=Sat.hide (h.alloc (PredE.cells ⟨3,col,v,w0,la,n,lc,subs⟩).toArray tPr)
 have uq:=CM (show Kept (fun _=>False) w W1 by rw [hW1];exact(Kept.refl _ _).alloc _)
 have ul:=CM hW1
 have uk:=CM hs1
 have HC:=CM hc
 clear h hW1 hs1 hc
 by_cases h0:n=0
 ·subst h0
  obtain rfl:subs = []:=List.length_eq_zero_iff.1 hn.symm
  have HO:=CM (show ar c (.mk 3 col v w0 [])=bP c col v by unfold ar;simp only [PredT.op,PredT.col,PredT.v,PredT.w,PredT.l];simp)
  rw [HO.out]
  clear HO hn
  cases b
  all_goals
   go_enter Tryz.func46,Tryz.ntmps46
   go_upto_region 1 with fail
   rw [←ul.out]
   clear ul
   generalize w.heap.size=bx at uk ⊢
   obtain⟨x0,x1,x2,x3,x4,x5,x6,x7,x8⟩:=bh (uk.out.blk 0 rfl)
   obtain⟨d0,d1,df⟩:=bE (uk.out.blk 1 rfl)
   have uT:=CM (iQ (w:=W1) col v (uk.out.blk 1 rfl) (HC.out W1 uq.out))
   generalize bP c col v=rr at *
   go_wp2_with (go_at_call 66;refine uT.out.mono ?_;rintro e1 w1 ⟨rfl,hk1⟩;have uk:=CM (uk.out.kept hk1);clear hk1 uT;clear d0 d1 df x0 x1 x2 x3 x4 x5 x6 x7 x8;obtain⟨x0,x1,x2,x3,x4,x5,x6,x7,x8⟩:=bh (uk.out.blk 0 rfl);obtain⟨d0,d1,df⟩:=bE (uk.out.blk 1 rfl))
   go_end0
   exact⟨rfl,(Sat.setCk uk.out.swap _).swap.drop⟩
 ·have h1:¬(n:Int)=0:=by omega
  have h2:0<n:=by omega
  have h3:(n:Int) > 0:=by omega
  have he:subs.isEmpty=false:=by cases subs with|nil=>simp at hn;omega|cons _ _=>rfl
  have HO:=CM (show ar c (.mk 3 col v w0 subs)=false by unfold ar;simp only [PredT.op,PredT.col,PredT.v,PredT.w,PredT.l];simp [he])
  rw [HO.out]
  clear HO hn
  cases b
  all_goals
   go_enter Tryz.func46,Tryz.ntmps46
   go_upto_region 1 with fail
   rw [←ul.out]
   clear ul
   generalize w.heap.size=bx at uk ⊢
   obtain⟨x0,x1,x2,x3,x4,x5,x6,x7,x8⟩:=bh (uk.out.blk 0 rfl)
   obtain⟨d0,d1,df⟩:=bE (uk.out.blk 1 rfl)
   clear he
   go_wp2_with fail
   go_end0
   first
    | exact⟨rfl,(Sat.setCk uk.out.swap _).swap.drop⟩
    | exact⟨rfl,(show(!((n:Int) == 0))=true by simp;omega)▸(Sat.setCk uk.out.swap (!((n:Int) == 0))).swap.drop⟩
    | exact⟨rfl,(show(!((n:Int) == 1))=true by simp;omega)▸(Sat.setCk uk.out.swap (!((n:Int) == 1))).swap.drop⟩
theorem part_4 {B w:World}{D:PH}{l:List HP}{ck:Nat}{cv:Value}{b:Bool}{c:List Bool}(op col:Int)(hop:op=4)(v w0:Val)(la:Option Addr)(n lc:Nat)(subs:List PredT)(hn:n=subs.length)(hc:∀W,Kept (fun _=>False) w W→bu W cv c)(h:Sat B D w (blk ck #[cv,.bool b] tCk::l)) :
  Calls Tryz.prog 46 #[.pointer (some ⟨ck,0,none⟩),.agg (PredE.cells ⟨op,col,v,w0,la,n,lc,subs⟩).toArray] w (dt B D l ck cv (b || !ar c (.mk op col v w0 subs))):=by
 subst hop
 obtain⟨W1,hW1,hs1⟩:=Sat.hide (h.alloc (PredE.cells ⟨4,col,v,w0,la,n,lc,subs⟩).toArray tPr)
 have uq:=CM (show Kept (fun _=>False) w W1 by rw [hW1];exact(Kept.refl _ _).alloc _)
 have ul:=CM hW1
 have uk:=CM hs1
 have HC:=CM hc
 clear h hW1 hs1 hc
 by_cases h0:n=0
 ·subst h0
  obtain rfl:subs = []:=List.length_eq_zero_iff.1 hn.symm
  have HO:=CM (show ar c (.mk 4 col v w0 [])=bP c col v by unfold ar;simp only [PredT.op,PredT.col,PredT.v,PredT.w,PredT.l];simp)
  rw [HO.out]
  clear HO hn
  cases b
  all_goals
   go_enter Tryz.func46,Tryz.ntmps46
   go_upto_region 1 with fail
   rw [←ul.out]
   clear ul
   generalize w.heap.size=bx at uk ⊢
   obtain⟨x0,x1,x2,x3,x4,x5,x6,x7,x8⟩:=bh (uk.out.blk 0 rfl)
   obtain⟨d0,d1,df⟩:=bE (uk.out.blk 1 rfl)
   have uT:=CM (iQ (w:=W1) col v (uk.out.blk 1 rfl) (HC.out W1 uq.out))
   generalize bP c col v=rr at *
   go_wp2_with (go_at_call 66;refine uT.out.mono ?_;rintro e1 w1 ⟨rfl,hk1⟩;have uk:=CM (uk.out.kept hk1);clear hk1 uT;clear d0 d1 df x0 x1 x2 x3 x4 x5 x6 x7 x8;obtain⟨x0,x1,x2,x3,x4,x5,x6,x7,x8⟩:=bh (uk.out.blk 0 rfl);obtain⟨d0,d1,df⟩:=bE (uk.out.blk 1 rfl))
   go_end0
   exact⟨rfl,(Sat.setCk uk.out.swap _).swap.drop⟩
 ·have h1:¬(n:Int)=0:=by omega
  have h2:0<n:=by omega
  have h3:(n:Int) > 0:=by omega
  have he:subs.isEmpty=false:=by cases subs with|nil=>simp at hn;omega|cons _ _=>rfl
  have HO:=CM (show ar c (.mk 4 col v w0 subs)=false by unfold ar;simp only [PredT.op,PredT.col,PredT.v,PredT.w,PredT.l];simp [he])
  rw [HO.out]
  clear HO hn
  cases b
  all_goals
   go_enter Tryz.func46,Tryz.ntmps46
   go_upto_region 1 with fail
   rw [←ul.out]
   clear ul
   generalize w.heap.size=bx at uk ⊢
   obtain⟨x0,x1,x2,x3,x4,x5,x6,x7,x8⟩:=bh (uk.out.blk 0 rfl)
   obtain⟨d0,d1,df⟩:=bE (uk.out.blk 1 rfl)
   clear he
   go_wp2_with fail
   go_end0
   first
    | exact⟨rfl,(Sat.setCk uk.out.swap _).swap.drop⟩
    | exact⟨rfl,(show(!((n:Int) == 0))=true by simp;omega)▸(Sat.setCk uk.out.swap (!((n:Int) == 0))).swap.drop⟩
    | exact⟨rfl,(show(!((n:Int) == 1))=true by simp;omega)▸(Sat.setCk uk.out.swap (!((n:Int) == 1))).swap.drop⟩
theorem part_5 {B w:World}{D:PH}{l:List HP}{ck:Nat}{cv:Value}{b:Bool}{c:List Bool}(op col:Int)(hop:op=5)(v w0:Val)(la:Option Addr)(n lc:Nat)(subs:List PredT)(hn:n=subs.length)(hc:∀W,Kept (fun _=>False) w W→bu W cv c)(h:Sat B D w (blk ck #[cv,.bool b] tCk::l)) :
  Calls Tryz.prog 46 #[.pointer (some ⟨ck,0,none⟩),.agg (PredE.cells ⟨op,col,v,w0,la,n,lc,subs⟩).toArray] w (dt B D l ck cv (b || !ar c (.mk op col v w0 subs))):=by
 subst hop
 obtain⟨W1,hW1,hs1⟩:=Sat.hide (h.alloc (PredE.cells ⟨5,col,v,w0,la,n,lc,subs⟩).toArray tPr)
 have uq:=CM (show Kept (fun _=>False) w W1 by rw [hW1];exact(Kept.refl _ _).alloc _)
 have ul:=CM hW1
 have uk:=CM hs1
 have HC:=CM hc
 clear h hW1 hs1 hc
 by_cases h0:n=0
 ·subst h0
  obtain rfl:subs = []:=List.length_eq_zero_iff.1 hn.symm
  have HO:=CM (show ar c (.mk 5 col v w0 [])=bP c col v by unfold ar;simp only [PredT.op,PredT.col,PredT.v,PredT.w,PredT.l];simp)
  rw [HO.out]
  clear HO hn
  cases b
  all_goals
   go_enter Tryz.func46,Tryz.ntmps46
   go_upto_region 1 with fail
   rw [←ul.out]
   clear ul
   generalize w.heap.size=bx at uk ⊢
   obtain⟨x0,x1,x2,x3,x4,x5,x6,x7,x8⟩:=bh (uk.out.blk 0 rfl)
   obtain⟨d0,d1,df⟩:=bE (uk.out.blk 1 rfl)
   have uT:=CM (iQ (w:=W1) col v (uk.out.blk 1 rfl) (HC.out W1 uq.out))
   generalize bP c col v=rr at *
   go_wp2_with (go_at_call 66;refine uT.out.mono ?_;rintro e1 w1 ⟨rfl,hk1⟩;have uk:=CM (uk.out.kept hk1);clear hk1 uT;clear d0 d1 df x0 x1 x2 x3 x4 x5 x6 x7 x8;obtain⟨x0,x1,x2,x3,x4,x5,x6,x7,x8⟩:=bh (uk.out.blk 0 rfl);obtain⟨d0,d1,df⟩:=bE (uk.out.blk 1 rfl))
   go_end0
   exact⟨rfl,(Sat.setCk uk.out.swap _).swap.drop⟩
 ·have h1:¬(n:Int)=0:=by omega
  have h2:0<n:=by omega
  have h3:(n:Int) > 0:=by omega
  have he:subs.isEmpty=false:=by cases subs with|nil=>simp at hn;omega|cons _ _=>rfl
  have HO:=CM (show ar c (.mk 5 col v w0 subs)=false by unfold ar;simp only [PredT.op,PredT.col,PredT.v,PredT.w,PredT.l];simp [he])
  rw [HO.out]
  clear HO hn
  cases b
  all_goals
   go_enter Tryz.func46,Tryz.ntmps46
   go_upto_region 1 with fail
   rw [←ul.out]
   clear ul
   generalize w.heap.size=bx at uk ⊢
   obtain⟨x0,x1,x2,x3,x4,x5,x6,x7,x8⟩:=bh (uk.out.blk 0 rfl)
   obtain⟨d0,d1,df⟩:=bE (uk.out.blk 1 rfl)
   clear he
   go_wp2_with fail
   go_end0
   first
    | exact⟨rfl,(Sat.setCk uk.out.swap _).swap.drop⟩
    | exact⟨rfl,(show(!((n:Int) == 0))=true by simp;omega)▸(Sat.setCk uk.out.swap (!((n:Int) == 0))).swap.drop⟩
    | exact⟨rfl,(show(!((n:Int) == 1))=true by simp;omega)▸(Sat.setCk uk.out.swap (!((n:Int) == 1))).swap.drop⟩
theorem part_6 {B w:World}{D:PH}{l:List HP}{ck:Nat}{cv:Value}{b:Bool}{c:List Bool}(op col:Int)(hop:op=6)(v w0:Val)(la:Option Addr)(n lc:Nat)(subs:List PredT)(hn:n=subs.length)(hc:∀W,Kept (fun _=>False) w W→bu W cv c)(h:Sat B D w (blk ck #[cv,.bool b] tCk::l)) :
  Calls Tryz.prog 46 #[.pointer (some ⟨ck,0,none⟩),.agg (PredE.cells ⟨op,col,v,w0,la,n,lc,subs⟩).toArray] w (dt B D l ck cv (b || !ar c (.mk op col v w0 subs))):=by
 subst hop
 obtain⟨W1,hW1,hs1⟩:=Sat.hide (h.alloc (PredE.cells ⟨6,col,v,w0,la,n,lc,subs⟩).toArray tPr)
 have uq:=CM (show Kept (fun _=>False) w W1 by rw [hW1];exact(Kept.refl _ _).alloc _)
 have ul:=CM hW1
 have uk:=CM hs1
 have HC:=CM hc
 clear h hW1 hs1 hc
 by_cases h0:n=0
 ·subst h0
  obtain rfl:subs = []:=List.length_eq_zero_iff.1 hn.symm
  have HO:=CM (show ar c (.mk 6 col v w0 [])=bP c col v by unfold ar;simp only [PredT.op,PredT.col,PredT.v,PredT.w,PredT.l];simp)
  rw [HO.out]
  clear HO hn
  cases b
  all_goals
   go_enter Tryz.func46,Tryz.ntmps46
   go_upto_region 1 with fail
   rw [←ul.out]
   clear ul
   generalize w.heap.size=bx at uk ⊢
   obtain⟨x0,x1,x2,x3,x4,x5,x6,x7,x8⟩:=bh (uk.out.blk 0 rfl)
   obtain⟨d0,d1,df⟩:=bE (uk.out.blk 1 rfl)
   have uT:=CM (iQ (w:=W1) col v (uk.out.blk 1 rfl) (HC.out W1 uq.out))
   generalize bP c col v=rr at *
   go_wp2_with (go_at_call 66;refine uT.out.mono ?_;rintro e1 w1 ⟨rfl,hk1⟩;have uk:=CM (uk.out.kept hk1);clear hk1 uT;clear d0 d1 df x0 x1 x2 x3 x4 x5 x6 x7 x8;obtain⟨x0,x1,x2,x3,x4,x5,x6,x7,x8⟩:=bh (uk.out.blk 0 rfl);obtain⟨d0,d1,df⟩:=bE (uk.out.blk 1 rfl))
   go_end0
   exact⟨rfl,(Sat.setCk uk.out.swap _).swap.drop⟩
 ·have h1:¬(n:Int)=0:=by omega
  have h2:0<n:=by omega
  have h3:(n:Int) > 0:=by omega
  have he:subs.isEmpty=false:=by cases subs with|nil=>simp at hn;omega|cons _ _=>rfl
  have HO:=CM (show ar c (.mk 6 col v w0 subs)=false by unfold ar;simp only [PredT.op,PredT.col,PredT.v,PredT.w,PredT.l];simp [he])
  rw [HO.out]
  clear HO hn
  cases b
  all_goals
   go_enter Tryz.func46,Tryz.ntmps46
   go_upto_region 1 with fail
   rw [←ul.out]
   clear ul
   generalize w.heap.size=bx at uk ⊢
   obtain⟨x0,x1,x2,x3,x4,x5,x6,x7,x8⟩:=bh (uk.out.blk 0 rfl)
   obtain⟨d0,d1,df⟩:=bE (uk.out.blk 1 rfl)
   clear he
   go_wp2_with fail
   go_end0
   first
    | exact⟨rfl,(Sat.setCk uk.out.swap _).swap.drop⟩
    | exact⟨rfl,(show(!((n:Int) == 0))=true by simp;omega)▸(Sat.setCk uk.out.swap (!((n:Int) == 0))).swap.drop⟩
    | exact⟨rfl,(show(!((n:Int) == 1))=true by simp;omega)▸(Sat.setCk uk.out.swap (!((n:Int) == 1))).swap.drop⟩
theorem part_7 {B w:World}{D:PH}{l:List HP}{ck:Nat}{cv:Value}{b:Bool}{c:List Bool}(op col:Int)(hop:op=7)(v w0:Val)(la:Option Addr)(n lc:Nat)(subs:List PredT)(hn:n=subs.length)(hc:∀W,Kept (fun _=>False) w W→bu W cv c)(h:Sat B D w (blk ck #[cv,.bool b] tCk::l)) :
  Calls Tryz.prog 46 #[.pointer (some ⟨ck,0,none⟩),.agg (PredE.cells ⟨op,col,v,w0,la,n,lc,subs⟩).toArray] w (dt B D l ck cv (b || !ar c (.mk op col v w0 subs))):=by
 subst hop
 obtain⟨W1,hW1,hs1⟩:=Sat.hide (h.alloc (PredE.cells ⟨7,col,v,w0,la,n,lc,subs⟩).toArray tPr)
 have uq:=CM (show Kept (fun _=>False) w W1 by rw [hW1];exact(Kept.refl _ _).alloc _)
 have ul:=CM hW1
 have uk:=CM hs1
 have HC:=CM hc
 clear h hW1 hs1 hc
 by_cases h0:n=0
 ·subst h0
  obtain rfl:subs = []:=List.length_eq_zero_iff.1 hn.symm
  have HO:=CM (show ar c (.mk 7 col v w0 [])=bP c col v by unfold ar;simp only [PredT.op,PredT.col,PredT.v,PredT.w,PredT.l];simp)
  rw [HO.out]
  clear HO hn
  cases b
  all_goals
   go_enter Tryz.func46,Tryz.ntmps46
   go_upto_region 1 with fail
   rw [←ul.out]
   clear ul
   generalize w.heap.size=bx at uk ⊢
   obtain⟨x0,x1,x2,x3,x4,x5,x6,x7,x8⟩:=bh (uk.out.blk 0 rfl)
   obtain⟨d0,d1,df⟩:=bE (uk.out.blk 1 rfl)
   have uT:=CM (iQ (w:=W1) col v (uk.out.blk 1 rfl) (HC.out W1 uq.out))
   generalize bP c col v=rr at *
   go_wp2_with (go_at_call 66;refine uT.out.mono ?_;rintro e1 w1 ⟨rfl,hk1⟩;have uk:=CM (uk.out.kept hk1);clear hk1 uT;clear d0 d1 df x0 x1 x2 x3 x4 x5 x6 x7 x8;obtain⟨x0,x1,x2,x3,x4,x5,x6,x7,x8⟩:=bh (uk.out.blk 0 rfl);obtain⟨d0,d1,df⟩:=bE (uk.out.blk 1 rfl))
   go_end0
   exact⟨rfl,(Sat.setCk uk.out.swap _).swap.drop⟩
 ·have h1:¬(n:Int)=0:=by omega
  have h2:0<n:=by omega
  have h3:(n:Int) > 0:=by omega
  have he:subs.isEmpty=false:=by cases subs with|nil=>simp at hn;omega|cons _ _=>rfl
  have HO:=CM (show ar c (.mk 7 col v w0 subs)=false by unfold ar;simp only [PredT.op,PredT.col,PredT.v,PredT.w,PredT.l];simp [he])
  rw [HO.out]
  clear HO hn
  cases b
  all_goals
   go_enter Tryz.func46,Tryz.ntmps46
   go_upto_region 1 with fail
   rw [←ul.out]
   clear ul
   generalize w.heap.size=bx at uk ⊢
   obtain⟨x0,x1,x2,x3,x4,x5,x6,x7,x8⟩:=bh (uk.out.blk 0 rfl)
   obtain⟨d0,d1,df⟩:=bE (uk.out.blk 1 rfl)
   clear he
   go_wp2_with fail
   go_end0
   first
    | exact⟨rfl,(Sat.setCk uk.out.swap _).swap.drop⟩
    | exact⟨rfl,(show(!((n:Int) == 0))=true by simp;omega)▸(Sat.setCk uk.out.swap (!((n:Int) == 0))).swap.drop⟩
    | exact⟨rfl,(show(!((n:Int) == 1))=true by simp;omega)▸(Sat.setCk uk.out.swap (!((n:Int) == 1))).swap.drop⟩
theorem part_8 {B w:World}{D:PH}{l:List HP}{ck:Nat}{cv:Value}{b:Bool}{c:List Bool}(op col:Int)(hop:op=8)(v w0:Val)(la:Option Addr)(n lc:Nat)(subs:List PredT)(hn:n=subs.length)(hc:∀W,Kept (fun _=>False) w W→bu W cv c)(h:Sat B D w (blk ck #[cv,.bool b] tCk::l)) :
  Calls Tryz.prog 46 #[.pointer (some ⟨ck,0,none⟩),.agg (PredE.cells ⟨op,col,v,w0,la,n,lc,subs⟩).toArray] w (dt B D l ck cv (b || !ar c (.mk op col v w0 subs))):=by
 subst hop
 obtain⟨W1,hW1,hs1⟩:=Sat.hide (h.alloc (PredE.cells ⟨8,col,v,w0,la,n,lc,subs⟩).toArray tPr)
 have uq:=CM (show Kept (fun _=>False) w W1 by rw [hW1];exact(Kept.refl _ _).alloc _)
 have ul:=CM hW1
 have uk:=CM hs1
 have HC:=CM hc
 clear h hW1 hs1 hc
 by_cases h0:n=0
 ·subst h0
  obtain rfl:subs = []:=List.length_eq_zero_iff.1 hn.symm
  have HO:=CM (show ar c (.mk 8 col v w0 [])=bP c col v by unfold ar;simp only [PredT.op,PredT.col,PredT.v,PredT.w,PredT.l];simp)
  rw [HO.out]
  clear HO hn
  cases b
  all_goals
   go_enter Tryz.func46,Tryz.ntmps46
   go_upto_region 1 with fail
   rw [←ul.out]
   clear ul
   generalize w.heap.size=bx at uk ⊢
   obtain⟨x0,x1,x2,x3,x4,x5,x6,x7,x8⟩:=bh (uk.out.blk 0 rfl)
   obtain⟨d0,d1,df⟩:=bE (uk.out.blk 1 rfl)
   have uT:=CM (iQ (w:=W1) col v (uk.out.blk 1 rfl) (HC.out W1 uq.out))
   generalize bP c col v=rr at *
   go_wp2_with (go_at_call 66;refine uT.out.mono ?_;rintro e1 w1 ⟨rfl,hk1⟩;have uk:=CM (uk.out.kept hk1);clear hk1 uT;clear d0 d1 df x0 x1 x2 x3 x4 x5 x6 x7 x8;obtain⟨x0,x1,x2,x3,x4,x5,x6,x7,x8⟩:=bh (uk.out.blk 0 rfl);obtain⟨d0,d1,df⟩:=bE (uk.out.blk 1 rfl))
   go_end0
   exact⟨rfl,(Sat.setCk uk.out.swap _).swap.drop⟩
 ·have h1:¬(n:Int)=0:=by omega
  have h2:0<n:=by omega
  have h3:(n:Int) > 0:=by omega
  have he:subs.isEmpty=false:=by cases subs with|nil=>simp at hn;omega|cons _ _=>rfl
  have HO:=CM (show ar c (.mk 8 col v w0 subs)=false by unfold ar;simp only [PredT.op,PredT.col,PredT.v,PredT.w,PredT.l];simp [he])
  rw [HO.out]
  clear HO hn
  cases b
  all_goals
   go_enter Tryz.func46,Tryz.ntmps46
   go_upto_region 1 with fail
   rw [←ul.out]
   clear ul
   generalize w.heap.size=bx at uk ⊢
   obtain⟨x0,x1,x2,x3,x4,x5,x6,x7,x8⟩:=bh (uk.out.blk 0 rfl)
   obtain⟨d0,d1,df⟩:=bE (uk.out.blk 1 rfl)
   clear he
   go_wp2_with fail
   go_end0
   first
    | exact⟨rfl,(Sat.setCk uk.out.swap _).swap.drop⟩
    | exact⟨rfl,(show(!((n:Int) == 0))=true by simp;omega)▸(Sat.setCk uk.out.swap (!((n:Int) == 0))).swap.drop⟩
    | exact⟨rfl,(show(!((n:Int) == 1))=true by simp;omega)▸(Sat.setCk uk.out.swap (!((n:Int) == 1))).swap.drop⟩
theorem part_9 {B w:World}{D:PH}{l:List HP}{ck:Nat}{cv:Value}{b:Bool}{c:List Bool}(op col:Int)(hop:op=9)(v w0:Val)(la:Option Addr)(n lc:Nat)(subs:List PredT)(hn:n=subs.length)(hc:∀W,Kept (fun _=>False) w W→bu W cv c)(h:Sat B D w (blk ck #[cv,.bool b] tCk::l)) :
  Calls Tryz.prog 46 #[.pointer (some ⟨ck,0,none⟩),.agg (PredE.cells ⟨op,col,v,w0,la,n,lc,subs⟩).toArray] w (dt B D l ck cv (b || !ar c (.mk op col v w0 subs))):=by
 subst hop
 obtain⟨W1,hW1,hs1⟩:=Sat.hide (h.alloc (PredE.cells ⟨9,col,v,w0,la,n,lc,subs⟩).toArray tPr)
 have uq:=CM (show Kept (fun _=>False) w W1 by rw [hW1];exact(Kept.refl _ _).alloc _)
 have ul:=CM hW1
 have uk:=CM hs1
 have HC:=CM hc
 clear h hW1 hs1 hc
 by_cases h0:n=0
 ·subst h0
  obtain rfl:subs = []:=List.length_eq_zero_iff.1 hn.symm
  cases hv:bP c col v
  ·have HV:=CM hv
   have HO:=CM (show ar c (.mk 9 col v w0 [])=false by unfold ar;simp only [PredT.op,PredT.col,PredT.v,PredT.w,PredT.l];simp [hv])
   rw [HO.out]
   clear HO hn
   cases b
   all_goals
    go_enter Tryz.func46,Tryz.ntmps46
    go_upto_region 1 with fail
    rw [←ul.out]
    clear ul
    generalize w.heap.size=bx at uk ⊢
    obtain⟨x0,x1,x2,x3,x4,x5,x6,x7,x8⟩:=bh (uk.out.blk 0 rfl)
    obtain⟨d0,d1,df⟩:=bE (uk.out.blk 1 rfl)
    clear hv
    have uT:=CM (iQ (w:=W1) col v (uk.out.blk 1 rfl) (HC.out W1 uq.out))
    rw [HV.out]at uT
    go_wp2_with (go_at_call 66;refine uT.out.mono ?_;rintro e1 w1 ⟨rfl,hk1⟩;have uk:=CM (uk.out.kept hk1);clear hk1 uT;clear d0 d1 df x0 x1 x2 x3 x4 x5 x6 x7 x8;obtain⟨x0,x1,x2,x3,x4,x5,x6,x7,x8⟩:=bh (uk.out.blk 0 rfl);obtain⟨d0,d1,df⟩:=bE (uk.out.blk 1 rfl))
    go_end0
    exact⟨rfl,(Sat.setCk uk.out.swap _).swap.drop⟩
  ·have HV:=CM hv
   obtain⟨rr,hrr⟩:∃rr,bP c col w0=rr:=⟨_,rfl⟩
   have HRR:=CM hrr
   have HO:=CM (show ar c (.mk 9 col v w0 [])=rr by unfold ar;simp only [PredT.op,PredT.col,PredT.v,PredT.w,PredT.l];simp [hv,hrr])
   rw [HO.out]
   clear HO hn
   cases b
   all_goals
    go_enter Tryz.func46,Tryz.ntmps46
    go_upto_region 1 with fail
    rw [←ul.out]
    clear ul
    generalize w.heap.size=bx at uk ⊢
    obtain⟨x0,x1,x2,x3,x4,x5,x6,x7,x8⟩:=bh (uk.out.blk 0 rfl)
    obtain⟨d0,d1,df⟩:=bE (uk.out.blk 1 rfl)
    clear hv hrr
    have uT:=CM (iQ (w:=W1) col v (uk.out.blk 1 rfl) (HC.out W1 uq.out))
    rw [HV.out]at uT
    go_wp2_with (first|(go_at_call 66;refine uT.out.mono ?_;rintro e1 w1 ⟨rfl,hk1⟩;have uq:=CM (uq.out.trans hk1 (fun _ h=>h.elim));have uk:=CM (uk.out.kept hk1);clear hk1 uT;clear d0 d1 df x0 x1 x2 x3 x4 x5 x6 x7 x8;obtain⟨x0,x1,x2,x3,x4,x5,x6,x7,x8⟩:=bh (uk.out.blk 0 rfl);obtain⟨d0,d1,df⟩:=bE (uk.out.blk 1 rfl);have zN:=CM (iQ (w:=w1) col w0 (uk.out.blk 1 rfl) (HC.out w1 uq.out));rw [HRR.out]at zN)|(go_at_call 66;refine zN.out.mono ?_;rintro e2 w2 ⟨rfl,hk2⟩;have uk:=CM (uk.out.kept hk2);clear hk2 zN;clear d0 d1 df x0 x1 x2 x3 x4 x5 x6 x7 x8;obtain⟨x0,x1,x2,x3,x4,x5,x6,x7,x8⟩:=bh (uk.out.blk 0 rfl);obtain⟨d0,d1,df⟩:=bE (uk.out.blk 1 rfl)))
    go_end0
    exact⟨rfl,(Sat.setCk uk.out.swap _).swap.drop⟩
 ·have h1:¬(n:Int)=0:=by omega
  have h2:0<n:=by omega
  have h3:(n:Int) > 0:=by omega
  have he:subs.isEmpty=false:=by cases subs with|nil=>simp at hn;omega|cons _ _=>rfl
  have HO:=CM (show ar c (.mk 9 col v w0 subs)=false by unfold ar;simp only [PredT.op,PredT.col,PredT.v,PredT.w,PredT.l];simp [he])
  rw [HO.out]
  clear HO hn
  cases b
  all_goals
   go_enter Tryz.func46,Tryz.ntmps46
   go_upto_region 1 with fail
   rw [←ul.out]
   clear ul
   generalize w.heap.size=bx at uk ⊢
   obtain⟨x0,x1,x2,x3,x4,x5,x6,x7,x8⟩:=bh (uk.out.blk 0 rfl)
   obtain⟨d0,d1,df⟩:=bE (uk.out.blk 1 rfl)
   clear he
   go_wp2_with fail
   go_end0
   first
    | exact⟨rfl,(Sat.setCk uk.out.swap _).swap.drop⟩
    | exact⟨rfl,(show(!((n:Int) == 0))=true by simp;omega)▸(Sat.setCk uk.out.swap (!((n:Int) == 0))).swap.drop⟩
    | exact⟨rfl,(show(!((n:Int) == 1))=true by simp;omega)▸(Sat.setCk uk.out.swap (!((n:Int) == 1))).swap.drop⟩
theorem part_10 {B w:World}{D:PH}{l:List HP}{ck:Nat}{cv:Value}{b:Bool}{c:List Bool}(op col:Int)(hop:op=10)(v w0:Val)(la:Option Addr)(n lc:Nat)(subs:List PredT)(hn:n=subs.length)(hc:∀W,Kept (fun _=>False) w W→bu W cv c)(h:Sat B D w (blk ck #[cv,.bool b] tCk::l)) :
  Calls Tryz.prog 46 #[.pointer (some ⟨ck,0,none⟩),.agg (PredE.cells ⟨op,col,v,w0,la,n,lc,subs⟩).toArray] w (dt B D l ck cv (b || !ar c (.mk op col v w0 subs))):=by
 subst hop
 obtain⟨W1,hW1,hs1⟩:=Sat.hide (h.alloc (PredE.cells ⟨10,col,v,w0,la,n,lc,subs⟩).toArray tPr)
 have uq:=CM (show Kept (fun _=>False) w W1 by rw [hW1];exact(Kept.refl _ _).alloc _)
 have ul:=CM hW1
 have uk:=CM hs1
 have HC:=CM hc
 clear h hW1 hs1 hc
 by_cases h0:n=1
 ·subst h0
  have HO:=CM (show ar c (.mk 10 col v w0 subs)=true by unfold ar;simp only [PredT.op,PredT.col,PredT.v,PredT.w,PredT.l];simp [←hn])
  rw [HO.out]
  clear HO hn
  cases b
  all_goals
   go_enter Tryz.func46,Tryz.ntmps46
   go_upto_region 1 with fail
   rw [←ul.out]
   clear ul
   generalize w.heap.size=bx at uk ⊢
   obtain⟨x0,x1,x2,x3,x4,x5,x6,x7,x8⟩:=bh (uk.out.blk 0 rfl)
   obtain⟨d0,d1,df⟩:=bE (uk.out.blk 1 rfl)
   go_wp2_with fail
   go_end0
   first
    | exact⟨rfl,(Sat.setCk uk.out.swap _).swap.drop⟩
    | exact⟨rfl,(show(!((n:Int) == 0))=true by simp;omega)▸(Sat.setCk uk.out.swap (!((n:Int) == 0))).swap.drop⟩
    | exact⟨rfl,(show(!((n:Int) == 1))=true by simp;omega)▸(Sat.setCk uk.out.swap (!((n:Int) == 1))).swap.drop⟩
 ·have h1:¬(n:Int)=1:=by omega
  have HO:=CM (show ar c (.mk 10 col v w0 subs)=false by unfold ar;simp only [PredT.op,PredT.col,PredT.v,PredT.w,PredT.l];simp [←hn,h0])
  rw [HO.out]
  clear HO hn
  cases b
  all_goals
   go_enter Tryz.func46,Tryz.ntmps46
   go_upto_region 1 with fail
   rw [←ul.out]
   clear ul
   generalize w.heap.size=bx at uk ⊢
   obtain⟨x0,x1,x2,x3,x4,x5,x6,x7,x8⟩:=bh (uk.out.blk 0 rfl)
   obtain⟨d0,d1,df⟩:=bE (uk.out.blk 1 rfl)
   go_wp2_with fail
   go_end0
   first
    | exact⟨rfl,(Sat.setCk uk.out.swap _).swap.drop⟩
    | exact⟨rfl,(show(!((n:Int) == 0))=true by simp;omega)▸(Sat.setCk uk.out.swap (!((n:Int) == 0))).swap.drop⟩
    | exact⟨rfl,(show(!((n:Int) == 1))=true by simp;omega)▸(Sat.setCk uk.out.swap (!((n:Int) == 1))).swap.drop⟩
theorem part_11 {B w:World}{D:PH}{l:List HP}{ck:Nat}{cv:Value}{b:Bool}{c:List Bool}(op col:Int)(hop:op=11)(v w0:Val)(la:Option Addr)(n lc:Nat)(subs:List PredT)(hn:n=subs.length)(hc:∀W,Kept (fun _=>False) w W→bu W cv c)(h:Sat B D w (blk ck #[cv,.bool b] tCk::l)) :
  Calls Tryz.prog 46 #[.pointer (some ⟨ck,0,none⟩),.agg (PredE.cells ⟨op,col,v,w0,la,n,lc,subs⟩).toArray] w (dt B D l ck cv (b || !ar c (.mk op col v w0 subs))):=by
 subst hop
 obtain⟨W1,hW1,hs1⟩:=Sat.hide (h.alloc (PredE.cells ⟨11,col,v,w0,la,n,lc,subs⟩).toArray tPr)
 have uq:=CM (show Kept (fun _=>False) w W1 by rw [hW1];exact(Kept.refl _ _).alloc _)
 have ul:=CM hW1
 have uk:=CM hs1
 have HC:=CM hc
 clear h hW1 hs1 hc
 by_cases h0:n=0
 ·subst h0
  obtain rfl:subs = []:=List.length_eq_zero_iff.1 hn.symm
  have HO:=CM (show ar c (.mk 11 col v w0 [])=false by unfold ar;simp only [PredT.op,PredT.col,PredT.v,PredT.w,PredT.l];simp)
  rw [HO.out]
  clear HO hn
  cases b
  all_goals
   go_enter Tryz.func46,Tryz.ntmps46
   go_upto_region 1 with fail
   rw [←ul.out]
   clear ul
   generalize w.heap.size=bx at uk ⊢
   obtain⟨x0,x1,x2,x3,x4,x5,x6,x7,x8⟩:=bh (uk.out.blk 0 rfl)
   obtain⟨d0,d1,df⟩:=bE (uk.out.blk 1 rfl)
   go_wp2_with fail
   go_end0
   first
    | exact⟨rfl,(Sat.setCk uk.out.swap _).swap.drop⟩
    | exact⟨rfl,(show(!((n:Int) == 0))=true by simp;omega)▸(Sat.setCk uk.out.swap (!((n:Int) == 0))).swap.drop⟩
    | exact⟨rfl,(show(!((n:Int) == 1))=true by simp;omega)▸(Sat.setCk uk.out.swap (!((n:Int) == 1))).swap.drop⟩
 ·have h1:¬(n:Int)=0:=by omega
  have h2:0<n:=by omega
  have h3:(n:Int) > 0:=by omega
  have he:subs.isEmpty=false:=by cases subs with|nil=>simp at hn;omega|cons _ _=>rfl
  have HO:=CM (show ar c (.mk 11 col v w0 subs)=true by unfold ar;simp only [PredT.op,PredT.col,PredT.v,PredT.w,PredT.l];simp [←hn];omega)
  rw [HO.out]
  clear HO hn
  cases b
  all_goals
   go_enter Tryz.func46,Tryz.ntmps46
   go_upto_region 1 with fail
   rw [←ul.out]
   clear ul
   generalize w.heap.size=bx at uk ⊢
   obtain⟨x0,x1,x2,x3,x4,x5,x6,x7,x8⟩:=bh (uk.out.blk 0 rfl)
   obtain⟨d0,d1,df⟩:=bE (uk.out.blk 1 rfl)
   clear he
   go_wp2_with fail
   go_end0
   first
    | exact⟨rfl,(Sat.setCk uk.out.swap _).swap.drop⟩
    | exact⟨rfl,(show(!((n:Int) == 0))=true by simp;omega)▸(Sat.setCk uk.out.swap (!((n:Int) == 0))).swap.drop⟩
    | exact⟨rfl,(show(!((n:Int) == 1))=true by simp;omega)▸(Sat.setCk uk.out.swap (!((n:Int) == 1))).swap.drop⟩
theorem part_12 {B w:World}{D:PH}{l:List HP}{ck:Nat}{cv:Value}{b:Bool}{c:List Bool}(op col:Int)(hop:op=12)(v w0:Val)(la:Option Addr)(n lc:Nat)(subs:List PredT)(hn:n=subs.length)(hc:∀W,Kept (fun _=>False) w W→bu W cv c)(h:Sat B D w (blk ck #[cv,.bool b] tCk::l)) :
  Calls Tryz.prog 46 #[.pointer (some ⟨ck,0,none⟩),.agg (PredE.cells ⟨op,col,v,w0,la,n,lc,subs⟩).toArray] w (dt B D l ck cv (b || !ar c (.mk op col v w0 subs))):=by
 subst hop
 obtain⟨W1,hW1,hs1⟩:=Sat.hide (h.alloc (PredE.cells ⟨12,col,v,w0,la,n,lc,subs⟩).toArray tPr)
 have uq:=CM (show Kept (fun _=>False) w W1 by rw [hW1];exact(Kept.refl _ _).alloc _)
 have ul:=CM hW1
 have uk:=CM hs1
 have HC:=CM hc
 clear h hW1 hs1 hc
 by_cases h0:n=0
 ·subst h0
  obtain rfl:subs = []:=List.length_eq_zero_iff.1 hn.symm
  have HO:=CM (show ar c (.mk 12 col v w0 [])=false by unfold ar;simp only [PredT.op,PredT.col,PredT.v,PredT.w,PredT.l];simp)
  rw [HO.out]
  clear HO hn
  cases b
  all_goals
   go_enter Tryz.func46,Tryz.ntmps46
   go_upto_region 1 with fail
   rw [←ul.out]
   clear ul
   generalize w.heap.size=bx at uk ⊢
   obtain⟨x0,x1,x2,x3,x4,x5,x6,x7,x8⟩:=bh (uk.out.blk 0 rfl)
   obtain⟨d0,d1,df⟩:=bE (uk.out.blk 1 rfl)
   go_wp2_with fail
   go_end0
   first
    | exact⟨rfl,(Sat.setCk uk.out.swap _).swap.drop⟩
    | exact⟨rfl,(show(!((n:Int) == 0))=true by simp;omega)▸(Sat.setCk uk.out.swap (!((n:Int) == 0))).swap.drop⟩
    | exact⟨rfl,(show(!((n:Int) == 1))=true by simp;omega)▸(Sat.setCk uk.out.swap (!((n:Int) == 1))).swap.drop⟩
 ·have h1:¬(n:Int)=0:=by omega
  have h2:0<n:=by omega
  have h3:(n:Int) > 0:=by omega
  have he:subs.isEmpty=false:=by cases subs with|nil=>simp at hn;omega|cons _ _=>rfl
  have HO:=CM (show ar c (.mk 12 col v w0 subs)=true by unfold ar;simp only [PredT.op,PredT.col,PredT.v,PredT.w,PredT.l];simp [←hn];omega)
  rw [HO.out]
  clear HO hn
  cases b
  all_goals
   go_enter Tryz.func46,Tryz.ntmps46
   go_upto_region 1 with fail
   rw [←ul.out]
   clear ul
   generalize w.heap.size=bx at uk ⊢
   obtain⟨x0,x1,x2,x3,x4,x5,x6,x7,x8⟩:=bh (uk.out.blk 0 rfl)
   obtain⟨d0,d1,df⟩:=bE (uk.out.blk 1 rfl)
   clear he
   go_wp2_with fail
   go_end0
   first
    | exact⟨rfl,(Sat.setCk uk.out.swap _).swap.drop⟩
    | exact⟨rfl,(show(!((n:Int) == 0))=true by simp;omega)▸(Sat.setCk uk.out.swap (!((n:Int) == 0))).swap.drop⟩
    | exact⟨rfl,(show(!((n:Int) == 1))=true by simp;omega)▸(Sat.setCk uk.out.swap (!((n:Int) == 1))).swap.drop⟩
theorem part_no {B w:World}{D:PH}{l:List HP}{ck:Nat}{cv:Value}{b:Bool}{c:List Bool}(op col:Int)(v w0:Val)(la:Option Addr)(n lc:Nat)(subs:List PredT)(_hn:n=subs.length)(hop:¬(1≤op∧op≤12))(hc:∀W,Kept (fun _=>False) w W→bu W cv c)(h:Sat B D w (blk ck #[cv,.bool b] tCk::l)) :
  Calls Tryz.prog 46 #[.pointer (some ⟨ck,0,none⟩),.agg (PredE.cells ⟨op,col,v,w0,la,n,lc,subs⟩).toArray] w (dt B D l ck cv (b || !ar c (.mk op col v w0 subs))):=by
 obtain⟨W1,hW1,hs1⟩:=Sat.hide (h.alloc (PredE.cells ⟨op,col,v,w0,la,n,lc,subs⟩).toArray tPr)
 have uq:=CM (show Kept (fun _=>False) w W1 by rw [hW1];exact(Kept.refl _ _).alloc _)
 have ul:=CM hW1
 have uk:=CM hs1
 have HC:=CM hc
 clear h hW1 hs1 hc
 have n1:¬op=1:=by omega
 have n2:¬op=2:=by omega
 have n3:¬op=3:=by omega
 have n4:¬op=4:=by omega
 have n5:¬op=5:=by omega
 have n6:¬op=6:=by omega
 have n7:¬op=7:=by omega
 have n8:¬op=8:=by omega
 have n9:¬op=9:=by omega
 have n10:¬op=10:=by omega
 have n11:¬op=11:=by omega
 have n12:¬op=12:=by omega
 have HO:=CM (show ar c (.mk op col v w0 subs)=false by unfold ar;rw [if_neg (show ¬((PredT.mk op col v w0 subs).op=1∨(PredT.mk op col v w0 subs).op=2) by show ¬(op=1∨op=2);omega),if_neg (show ¬(3≤(PredT.mk op col v w0 subs).op∧(PredT.mk op col v w0 subs).op≤8) by show ¬(3≤op∧op≤8);omega),if_neg (show ¬((PredT.mk op col v w0 subs).op=9) by show ¬(op=9);omega),if_neg (show ¬((PredT.mk op col v w0 subs).op=10) by show ¬(op=10);omega),if_neg (show ¬((PredT.mk op col v w0 subs).op=11∨(PredT.mk op col v w0 subs).op=12) by show ¬(op=11∨op=12);omega)])
 rw [HO.out]
 clear HO _hn
 cases b
 all_goals
  go_enter Tryz.func46,Tryz.ntmps46
  go_upto_region 1 with fail
  rw [←ul.out]
  clear ul
  generalize w.heap.size=bx at uk ⊢
  obtain⟨x0,x1,x2,x3,x4,x5,x6,x7,x8⟩:=bh (uk.out.blk 0 rfl)
  obtain⟨d0,d1,df⟩:=bE (uk.out.blk 1 rfl)
  go_wp2_with fail
  go_end0
  first
   | exact⟨rfl,(Sat.setCk uk.out.swap _).swap.drop⟩
   | exact⟨rfl,(show(!((n:Int) == 0))=true by simp;omega)▸(Sat.setCk uk.out.swap (!((n:Int) == 0))).swap.drop⟩
   | exact⟨rfl,(show(!((n:Int) == 1))=true by simp;omega)▸(Sat.setCk uk.out.swap (!((n:Int) == 1))).swap.drop⟩
theorem part_ok {B w:World}{D:PH}{l:List HP}{ck:Nat}{cv:Value}{b:Bool}{c:List Bool}(x:PredE)(hn:x.ln=x.subs.length)(hc:∀W,Kept (fun _=>False) w W→bu W cv c)(h:Sat B D w (blk ck #[cv,.bool b] tCk::l)) :
  Calls Tryz.prog 46 #[.pointer (some ⟨ck,0,none⟩),.agg x.cells.toArray] w (dt B D l ck cv (b || !ar c x.p)):=by
 obtain⟨op,col,v,w0,la,n,lc,subs⟩:=x
 by_cases hop:1≤op∧op≤12
 ·have h12:op=1∨op=2∨op=3∨op=4∨op=5∨op=6∨op=7∨op=8∨op=9∨op=10∨op=11∨op=12:=by omega
  rcases h12 with rfl|rfl|rfl|rfl|rfl|rfl|rfl|rfl|rfl|rfl|rfl|rfl
  ·exact part_1 _ col rfl v w0 la n lc subs hn hc h
  ·exact part_2 _ col rfl v w0 la n lc subs hn hc h
  ·exact part_3 _ col rfl v w0 la n lc subs hn hc h
  ·exact part_4 _ col rfl v w0 la n lc subs hn hc h
  ·exact part_5 _ col rfl v w0 la n lc subs hn hc h
  ·exact part_6 _ col rfl v w0 la n lc subs hn hc h
  ·exact part_7 _ col rfl v w0 la n lc subs hn hc h
  ·exact part_8 _ col rfl v w0 la n lc subs hn hc h
  ·exact part_9 _ col rfl v w0 la n lc subs hn hc h
  ·exact part_10 _ col rfl v w0 la n lc subs hn hc h
  ·exact part_11 _ col rfl v w0 la n lc subs hn hc h
  ·exact part_12 _ col rfl v w0 la n lc subs hn hc h
 ·exact part_no op col v w0 la n lc subs hn hop hc h
end Go.Proofs.YtdobimafhbfkhaaGreat
