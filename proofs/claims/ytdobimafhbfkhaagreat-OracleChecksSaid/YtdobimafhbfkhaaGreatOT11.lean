/- Whether a set may be (row.may). (printed by genok1.py) -/
import Derived.Test.YtdobimafhbfkhaaGreatOT10
set_option maxHeartbeats 64000000
namespace Go.Proofs.YtdobimafhbfkhaaGreat
open Go.ChangeShapes Go.WideShapes Go.ChangeAt Go.RowKit
set_option maxRecDepth 100000
set_option linter.unusedSimpArgs false
theorem may_1 {w:World}{cv:Value}{c:List Bool}(col op frm oth:Int)(v:Val)(h:bu w cv c)(hc:col<1) :
  Calls Tryz.prog 48 #[.agg #[cv],.agg (SetM.cells ⟨col,op,frm,oth,v⟩).toArray] w fun e w'=>e = .returned (.bool false)∧Kept (fun _=>False) w w':=by
 obtain⟨W1,hW1,hk1,hb1,hb2⟩:=bC w #[cv] (SetM.cells ⟨col,op,frm,oth,v⟩).toArray aX cI
 have HC:=CM (Rd.kept h hk1 (fun _ _ h=>h))
 have HQ:=CM (show ∀i W,Kept (fun _=>False) W1 W→Calls Tryz.prog 67 #[.agg #[cv],.int .i64 i] W fun e w'=>e = .returned (.int .i64 (aB c i))∧Kept (fun _=>False) W w' from fun i W k=>aN (Rd.kept HC.out k (fun _ _ h=>h)) i)
 have HV:=CM (aK v)
 have ul:=CM hW1
 have um:=CM hb1
 have un:=CM hb2
 have uB:=CM hk1
 have HK:=CM (Kept.refl (fun _=>False) W1)
 clear hW1 hk1 hb1 hb2 HC h
 have H1:=CM (show aB c col=aB c col from rfl)
 go_enter Tryz.func48,Tryz.ntmps48
 go_upto_region 1 with fail
 rw [←ul.out]
 clear ul
 generalize w.heap.size+1=bs at un ⊢
 generalize w.heap.size=bt at um ⊢
 obtain⟨b0,bf⟩:=aq um.out
 obtain⟨x0,x1,x2,x3,x4,x5,x6⟩:=aC un.out
 go_wp2_with ((go_at_call 67;refine(HQ.out _ _ HK.out).mono ?_;(first|(rw [H1.out]));rintro e1 w1 ⟨rfl,hk2⟩;replace HK:=CM (HK.out.trans hk2 (fun _ h=>h.elim));clear hk2 b0 bf x0 x1 x2 x3 x4 x5 x6;obtain⟨b0,bf⟩:=aq (aj HK.out um.out);obtain⟨x0,x1,x2,x3,x4,x5,x6⟩:=aC (aj HK.out un.out)))
 go_ret
 exact⟨rfl,uB.out.trans HK.out (fun _ h=>h.elim)⟩
theorem may_2 {w:World}{cv:Value}{c:List Bool}(col op frm oth:Int)(v:Val)(h:bu w cv c)(k1:aB c col=0)(hc:¬col<1) :
  Calls Tryz.prog 48 #[.agg #[cv],.agg (SetM.cells ⟨col,op,frm,oth,v⟩).toArray] w fun e w'=>e = .returned (.bool false)∧Kept (fun _=>False) w w':=by
 obtain⟨W1,hW1,hk1,hb1,hb2⟩:=bC w #[cv] (SetM.cells ⟨col,op,frm,oth,v⟩).toArray aX cI
 have HC:=CM (Rd.kept h hk1 (fun _ _ h=>h))
 have HQ:=CM (show ∀i W,Kept (fun _=>False) W1 W→Calls Tryz.prog 67 #[.agg #[cv],.int .i64 i] W fun e w'=>e = .returned (.int .i64 (aB c i))∧Kept (fun _=>False) W w' from fun i W k=>aN (Rd.kept HC.out k (fun _ _ h=>h)) i)
 have HV:=CM (aK v)
 have ul:=CM hW1
 have um:=CM hb1
 have un:=CM hb2
 have uB:=CM hk1
 have HK:=CM (Kept.refl (fun _=>False) W1)
 clear hW1 hk1 hb1 hb2 HC h
 have H1:=CM k1
 clear k1
 go_enter Tryz.func48,Tryz.ntmps48
 go_upto_region 1 with fail
 rw [←ul.out]
 clear ul
 generalize w.heap.size+1=bs at un ⊢
 generalize w.heap.size=bt at um ⊢
 obtain⟨b0,bf⟩:=aq um.out
 obtain⟨x0,x1,x2,x3,x4,x5,x6⟩:=aC un.out
 go_wp2_with ((go_at_call 67;refine(HQ.out _ _ HK.out).mono ?_;(first|(rw [H1.out]));rintro e1 w1 ⟨rfl,hk2⟩;replace HK:=CM (HK.out.trans hk2 (fun _ h=>h.elim));clear hk2 b0 bf x0 x1 x2 x3 x4 x5 x6;obtain⟨b0,bf⟩:=aq (aj HK.out um.out);obtain⟨x0,x1,x2,x3,x4,x5,x6⟩:=aC (aj HK.out un.out)))
 go_ret
 exact⟨rfl,uB.out.trans HK.out (fun _ h=>h.elim)⟩
theorem may_3 {w:World}{cv:Value}{c:List Bool}(col  frm oth:Int)(v:Val)(h:bu w cv c)(k1:aB c col=1)(r1:am v=false)(hc:¬col<1) :
  Calls Tryz.prog 48 #[.agg #[cv],.agg (SetM.cells ⟨col,1,frm,oth,v⟩).toArray] w fun e w'=>e = .returned (.bool false)∧Kept (fun _=>False) w w':=by
 obtain⟨W1,hW1,hk1,hb1,hb2⟩:=bC w #[cv] (SetM.cells ⟨col,1,frm,oth,v⟩).toArray aX cI
 have HC:=CM (Rd.kept h hk1 (fun _ _ h=>h))
 have HQ:=CM (show ∀i W,Kept (fun _=>False) W1 W→Calls Tryz.prog 67 #[.agg #[cv],.int .i64 i] W fun e w'=>e = .returned (.int .i64 (aB c i))∧Kept (fun _=>False) W w' from fun i W k=>aN (Rd.kept HC.out k (fun _ _ h=>h)) i)
 have HV:=CM (aK v)
 have ul:=CM hW1
 have um:=CM hb1
 have un:=CM hb2
 have uB:=CM hk1
 have HK:=CM (Kept.refl (fun _=>False) W1)
 clear hW1 hk1 hb1 hb2 HC h
 have H1:=CM k1
 rw [r1]at HV
 clear k1 r1
 go_enter Tryz.func48,Tryz.ntmps48
 go_upto_region 1 with fail
 rw [←ul.out]
 clear ul
 generalize w.heap.size+1=bs at un ⊢
 generalize w.heap.size=bt at um ⊢
 obtain⟨b0,bf⟩:=aq um.out
 obtain⟨x0,x1,x2,x3,x4,x5,x6⟩:=aC un.out
 go_wp2_with (first|(go_at_call 67;refine(HQ.out _ _ HK.out).mono ?_;(first|(rw [H1.out]));rintro e1 w1 ⟨rfl,hk2⟩;replace HK:=CM (HK.out.trans hk2 (fun _ h=>h.elim));clear hk2 b0 bf x0 x1 x2 x3 x4 x5 x6;obtain⟨b0,bf⟩:=aq (aj HK.out um.out);obtain⟨x0,x1,x2,x3,x4,x5,x6⟩:=aC (aj HK.out un.out))|(go_at_call 32;refine(HV.out _).mono ?_;rintro e1 w1 ⟨rfl,hk2⟩;replace HK:=CM (HK.out.trans hk2 (fun _ h=>h.elim));clear hk2 b0 bf x0 x1 x2 x3 x4 x5 x6;obtain⟨b0,bf⟩:=aq (aj HK.out um.out);obtain⟨x0,x1,x2,x3,x4,x5,x6⟩:=aC (aj HK.out un.out)))
 go_ret
 exact⟨rfl,uB.out.trans HK.out (fun _ h=>h.elim)⟩
theorem may_4 {w:World}{cv:Value}{c:List Bool}(col  frm oth:Int)(v:Val)(h:bu w cv c)(k1:aB c col=1)(r1:am v=true)(hc:¬col<1) :
  Calls Tryz.prog 48 #[.agg #[cv],.agg (SetM.cells ⟨col,1,frm,oth,v⟩).toArray] w fun e w'=>e = .returned (.bool (!v.t))∧Kept (fun _=>False) w w':=by
 obtain⟨W1,hW1,hk1,hb1,hb2⟩:=bC w #[cv] (SetM.cells ⟨col,1,frm,oth,v⟩).toArray aX cI
 have HC:=CM (Rd.kept h hk1 (fun _ _ h=>h))
 have HQ:=CM (show ∀i W,Kept (fun _=>False) W1 W→Calls Tryz.prog 67 #[.agg #[cv],.int .i64 i] W fun e w'=>e = .returned (.int .i64 (aB c i))∧Kept (fun _=>False) W w' from fun i W k=>aN (Rd.kept HC.out k (fun _ _ h=>h)) i)
 have HV:=CM (aK v)
 have ul:=CM hW1
 have um:=CM hb1
 have un:=CM hb2
 have uB:=CM hk1
 have HK:=CM (Kept.refl (fun _=>False) W1)
 clear hW1 hk1 hb1 hb2 HC h
 have H1:=CM k1
 rw [r1]at HV
 clear k1 r1
 go_enter Tryz.func48,Tryz.ntmps48
 go_upto_region 1 with fail
 rw [←ul.out]
 clear ul
 generalize w.heap.size+1=bs at un ⊢
 generalize w.heap.size=bt at um ⊢
 obtain⟨b0,bf⟩:=aq um.out
 obtain⟨x0,x1,x2,x3,x4,x5,x6⟩:=aC un.out
 go_wp2_with (first|(go_at_call 67;refine(HQ.out _ _ HK.out).mono ?_;(first|(rw [H1.out]));rintro e1 w1 ⟨rfl,hk2⟩;replace HK:=CM (HK.out.trans hk2 (fun _ h=>h.elim));clear hk2 b0 bf x0 x1 x2 x3 x4 x5 x6;obtain⟨b0,bf⟩:=aq (aj HK.out um.out);obtain⟨x0,x1,x2,x3,x4,x5,x6⟩:=aC (aj HK.out un.out))|(go_at_call 32;refine(HV.out _).mono ?_;rintro e1 w1 ⟨rfl,hk2⟩;replace HK:=CM (HK.out.trans hk2 (fun _ h=>h.elim));clear hk2 b0 bf x0 x1 x2 x3 x4 x5 x6;obtain⟨b0,bf⟩:=aq (aj HK.out um.out);obtain⟨x0,x1,x2,x3,x4,x5,x6⟩:=aC (aj HK.out un.out)))
 go_ret
 exact⟨rfl,uB.out.trans HK.out (fun _ h=>h.elim)⟩
theorem may_5 {w:World}{cv:Value}{c:List Bool}(col  frm oth:Int)(v:Val)(h:bu w cv c)(k1:aB c col=2)(r1:am v=false)(hc:¬col<1) :
  Calls Tryz.prog 48 #[.agg #[cv],.agg (SetM.cells ⟨col,1,frm,oth,v⟩).toArray] w fun e w'=>e = .returned (.bool false)∧Kept (fun _=>False) w w':=by
 obtain⟨W1,hW1,hk1,hb1,hb2⟩:=bC w #[cv] (SetM.cells ⟨col,1,frm,oth,v⟩).toArray aX cI
 have HC:=CM (Rd.kept h hk1 (fun _ _ h=>h))
 have HQ:=CM (show ∀i W,Kept (fun _=>False) W1 W→Calls Tryz.prog 67 #[.agg #[cv],.int .i64 i] W fun e w'=>e = .returned (.int .i64 (aB c i))∧Kept (fun _=>False) W w' from fun i W k=>aN (Rd.kept HC.out k (fun _ _ h=>h)) i)
 have HV:=CM (aK v)
 have ul:=CM hW1
 have um:=CM hb1
 have un:=CM hb2
 have uB:=CM hk1
 have HK:=CM (Kept.refl (fun _=>False) W1)
 clear hW1 hk1 hb1 hb2 HC h
 have H1:=CM k1
 rw [r1]at HV
 clear k1 r1
 go_enter Tryz.func48,Tryz.ntmps48
 go_upto_region 1 with fail
 rw [←ul.out]
 clear ul
 generalize w.heap.size+1=bs at un ⊢
 generalize w.heap.size=bt at um ⊢
 obtain⟨b0,bf⟩:=aq um.out
 obtain⟨x0,x1,x2,x3,x4,x5,x6⟩:=aC un.out
 go_wp2_with (first|(go_at_call 67;refine(HQ.out _ _ HK.out).mono ?_;(first|(rw [H1.out]));rintro e1 w1 ⟨rfl,hk2⟩;replace HK:=CM (HK.out.trans hk2 (fun _ h=>h.elim));clear hk2 b0 bf x0 x1 x2 x3 x4 x5 x6;obtain⟨b0,bf⟩:=aq (aj HK.out um.out);obtain⟨x0,x1,x2,x3,x4,x5,x6⟩:=aC (aj HK.out un.out))|(go_at_call 32;refine(HV.out _).mono ?_;rintro e1 w1 ⟨rfl,hk2⟩;replace HK:=CM (HK.out.trans hk2 (fun _ h=>h.elim));clear hk2 b0 bf x0 x1 x2 x3 x4 x5 x6;obtain⟨b0,bf⟩:=aq (aj HK.out um.out);obtain⟨x0,x1,x2,x3,x4,x5,x6⟩:=aC (aj HK.out un.out)))
 go_ret
 exact⟨rfl,uB.out.trans HK.out (fun _ h=>h.elim)⟩
theorem may_6 {w:World}{cv:Value}{c:List Bool}(col  frm oth:Int)(v:Val)(h:bu w cv c)(k1:aB c col=2)(r1:am v=true)(hc:¬col<1) :
  Calls Tryz.prog 48 #[.agg #[cv],.agg (SetM.cells ⟨col,1,frm,oth,v⟩).toArray] w fun e w'=>e = .returned (.bool v.t)∧Kept (fun _=>False) w w':=by
 obtain⟨W1,hW1,hk1,hb1,hb2⟩:=bC w #[cv] (SetM.cells ⟨col,1,frm,oth,v⟩).toArray aX cI
 have HC:=CM (Rd.kept h hk1 (fun _ _ h=>h))
 have HQ:=CM (show ∀i W,Kept (fun _=>False) W1 W→Calls Tryz.prog 67 #[.agg #[cv],.int .i64 i] W fun e w'=>e = .returned (.int .i64 (aB c i))∧Kept (fun _=>False) W w' from fun i W k=>aN (Rd.kept HC.out k (fun _ _ h=>h)) i)
 have HV:=CM (aK v)
 have ul:=CM hW1
 have um:=CM hb1
 have un:=CM hb2
 have uB:=CM hk1
 have HK:=CM (Kept.refl (fun _=>False) W1)
 clear hW1 hk1 hb1 hb2 HC h
 have H1:=CM k1
 rw [r1]at HV
 clear k1 r1
 go_enter Tryz.func48,Tryz.ntmps48
 go_upto_region 1 with fail
 rw [←ul.out]
 clear ul
 generalize w.heap.size+1=bs at un ⊢
 generalize w.heap.size=bt at um ⊢
 obtain⟨b0,bf⟩:=aq um.out
 obtain⟨x0,x1,x2,x3,x4,x5,x6⟩:=aC un.out
 go_wp2_with (first|(go_at_call 67;refine(HQ.out _ _ HK.out).mono ?_;(first|(rw [H1.out]));rintro e1 w1 ⟨rfl,hk2⟩;replace HK:=CM (HK.out.trans hk2 (fun _ h=>h.elim));clear hk2 b0 bf x0 x1 x2 x3 x4 x5 x6;obtain⟨b0,bf⟩:=aq (aj HK.out um.out);obtain⟨x0,x1,x2,x3,x4,x5,x6⟩:=aC (aj HK.out un.out))|(go_at_call 32;refine(HV.out _).mono ?_;rintro e1 w1 ⟨rfl,hk2⟩;replace HK:=CM (HK.out.trans hk2 (fun _ h=>h.elim));clear hk2 b0 bf x0 x1 x2 x3 x4 x5 x6;obtain⟨b0,bf⟩:=aq (aj HK.out um.out);obtain⟨x0,x1,x2,x3,x4,x5,x6⟩:=aC (aj HK.out un.out)))
 go_ret
 exact⟨rfl,uB.out.trans HK.out (fun _ h=>h.elim)⟩
theorem may_7 {w:World}{cv:Value}{c:List Bool}(col  frm oth:Int)(v:Val)(h:bu w cv c)(k1:aB c col=1)(k2:aB c frm=0)(hc:¬col<1) :
  Calls Tryz.prog 48 #[.agg #[cv],.agg (SetM.cells ⟨col,2,frm,oth,v⟩).toArray] w fun e w'=>e = .returned (.bool false)∧Kept (fun _=>False) w w':=by
 obtain⟨W1,hW1,hk1,hb1,hb2⟩:=bC w #[cv] (SetM.cells ⟨col,2,frm,oth,v⟩).toArray aX cI
 have HC:=CM (Rd.kept h hk1 (fun _ _ h=>h))
 have HQ:=CM (show ∀i W,Kept (fun _=>False) W1 W→Calls Tryz.prog 67 #[.agg #[cv],.int .i64 i] W fun e w'=>e = .returned (.int .i64 (aB c i))∧Kept (fun _=>False) W w' from fun i W k=>aN (Rd.kept HC.out k (fun _ _ h=>h)) i)
 have HV:=CM (aK v)
 have ul:=CM hW1
 have um:=CM hb1
 have un:=CM hb2
 have uB:=CM hk1
 have HK:=CM (Kept.refl (fun _=>False) W1)
 clear hW1 hk1 hb1 hb2 HC h
 have H1:=CM k1
 have H2:=CM k2
 clear k1 k2
 go_enter Tryz.func48,Tryz.ntmps48
 go_upto_region 1 with fail
 rw [←ul.out]
 clear ul
 generalize w.heap.size+1=bs at un ⊢
 generalize w.heap.size=bt at um ⊢
 obtain⟨b0,bf⟩:=aq um.out
 obtain⟨x0,x1,x2,x3,x4,x5,x6⟩:=aC un.out
 go_wp2_with ((go_at_call 67;refine(HQ.out _ _ HK.out).mono ?_;(first|(rw [H1.out])|(rw [H2.out]));rintro e1 w1 ⟨rfl,hk2⟩;replace HK:=CM (HK.out.trans hk2 (fun _ h=>h.elim));clear hk2 b0 bf x0 x1 x2 x3 x4 x5 x6;obtain⟨b0,bf⟩:=aq (aj HK.out um.out);obtain⟨x0,x1,x2,x3,x4,x5,x6⟩:=aC (aj HK.out un.out)))
 go_ret
 exact⟨rfl,uB.out.trans HK.out (fun _ h=>h.elim)⟩
theorem may_8 {w:World}{cv:Value}{c:List Bool}(col  frm oth:Int)(v:Val)(h:bu w cv c)(k1:aB c col=1)(k2:aB c frm=1)(hc:¬col<1) :
  Calls Tryz.prog 48 #[.agg #[cv],.agg (SetM.cells ⟨col,2,frm,oth,v⟩).toArray] w fun e w'=>e = .returned (.bool true)∧Kept (fun _=>False) w w':=by
 obtain⟨W1,hW1,hk1,hb1,hb2⟩:=bC w #[cv] (SetM.cells ⟨col,2,frm,oth,v⟩).toArray aX cI
 have HC:=CM (Rd.kept h hk1 (fun _ _ h=>h))
 have HQ:=CM (show ∀i W,Kept (fun _=>False) W1 W→Calls Tryz.prog 67 #[.agg #[cv],.int .i64 i] W fun e w'=>e = .returned (.int .i64 (aB c i))∧Kept (fun _=>False) W w' from fun i W k=>aN (Rd.kept HC.out k (fun _ _ h=>h)) i)
 have HV:=CM (aK v)
 have ul:=CM hW1
 have um:=CM hb1
 have un:=CM hb2
 have uB:=CM hk1
 have HK:=CM (Kept.refl (fun _=>False) W1)
 clear hW1 hk1 hb1 hb2 HC h
 have H1:=CM k1
 have H2:=CM k2
 clear k1 k2
 go_enter Tryz.func48,Tryz.ntmps48
 go_upto_region 1 with fail
 rw [←ul.out]
 clear ul
 generalize w.heap.size+1=bs at un ⊢
 generalize w.heap.size=bt at um ⊢
 obtain⟨b0,bf⟩:=aq um.out
 obtain⟨x0,x1,x2,x3,x4,x5,x6⟩:=aC un.out
 go_wp2_with ((go_at_call 67;refine(HQ.out _ _ HK.out).mono ?_;(first|(rw [H1.out])|(rw [H2.out]));rintro e1 w1 ⟨rfl,hk2⟩;replace HK:=CM (HK.out.trans hk2 (fun _ h=>h.elim));clear hk2 b0 bf x0 x1 x2 x3 x4 x5 x6;obtain⟨b0,bf⟩:=aq (aj HK.out um.out);obtain⟨x0,x1,x2,x3,x4,x5,x6⟩:=aC (aj HK.out un.out)))
 go_ret
 exact⟨rfl,uB.out.trans HK.out (fun _ h=>h.elim)⟩
theorem may_9 {w:World}{cv:Value}{c:List Bool}(col  frm oth:Int)(v:Val)(h:bu w cv c)(k1:aB c col=1)(k2:aB c frm=2)(hc:¬col<1) :
  Calls Tryz.prog 48 #[.agg #[cv],.agg (SetM.cells ⟨col,2,frm,oth,v⟩).toArray] w fun e w'=>e = .returned (.bool false)∧Kept (fun _=>False) w w':=by
 obtain⟨W1,hW1,hk1,hb1,hb2⟩:=bC w #[cv] (SetM.cells ⟨col,2,frm,oth,v⟩).toArray aX cI
 have HC:=CM (Rd.kept h hk1 (fun _ _ h=>h))
 have HQ:=CM (show ∀i W,Kept (fun _=>False) W1 W→Calls Tryz.prog 67 #[.agg #[cv],.int .i64 i] W fun e w'=>e = .returned (.int .i64 (aB c i))∧Kept (fun _=>False) W w' from fun i W k=>aN (Rd.kept HC.out k (fun _ _ h=>h)) i)
 have HV:=CM (aK v)
 have ul:=CM hW1
 have um:=CM hb1
 have un:=CM hb2
 have uB:=CM hk1
 have HK:=CM (Kept.refl (fun _=>False) W1)
 clear hW1 hk1 hb1 hb2 HC h
 have H1:=CM k1
 have H2:=CM k2
 clear k1 k2
 go_enter Tryz.func48,Tryz.ntmps48
 go_upto_region 1 with fail
 rw [←ul.out]
 clear ul
 generalize w.heap.size+1=bs at un ⊢
 generalize w.heap.size=bt at um ⊢
 obtain⟨b0,bf⟩:=aq um.out
 obtain⟨x0,x1,x2,x3,x4,x5,x6⟩:=aC un.out
 go_wp2_with ((go_at_call 67;refine(HQ.out _ _ HK.out).mono ?_;(first|(rw [H1.out])|(rw [H2.out]));rintro e1 w1 ⟨rfl,hk2⟩;replace HK:=CM (HK.out.trans hk2 (fun _ h=>h.elim));clear hk2 b0 bf x0 x1 x2 x3 x4 x5 x6;obtain⟨b0,bf⟩:=aq (aj HK.out um.out);obtain⟨x0,x1,x2,x3,x4,x5,x6⟩:=aC (aj HK.out un.out)))
 go_ret
 exact⟨rfl,uB.out.trans HK.out (fun _ h=>h.elim)⟩
theorem may_10 {w:World}{cv:Value}{c:List Bool}(col  frm oth:Int)(v:Val)(h:bu w cv c)(k1:aB c col=2)(k2:aB c frm=0)(hc:¬col<1) :
  Calls Tryz.prog 48 #[.agg #[cv],.agg (SetM.cells ⟨col,2,frm,oth,v⟩).toArray] w fun e w'=>e = .returned (.bool false)∧Kept (fun _=>False) w w':=by
 obtain⟨W1,hW1,hk1,hb1,hb2⟩:=bC w #[cv] (SetM.cells ⟨col,2,frm,oth,v⟩).toArray aX cI
 have HC:=CM (Rd.kept h hk1 (fun _ _ h=>h))
 have HQ:=CM (show ∀i W,Kept (fun _=>False) W1 W→Calls Tryz.prog 67 #[.agg #[cv],.int .i64 i] W fun e w'=>e = .returned (.int .i64 (aB c i))∧Kept (fun _=>False) W w' from fun i W k=>aN (Rd.kept HC.out k (fun _ _ h=>h)) i)
 have HV:=CM (aK v)
 have ul:=CM hW1
 have um:=CM hb1
 have un:=CM hb2
 have uB:=CM hk1
 have HK:=CM (Kept.refl (fun _=>False) W1)
 clear hW1 hk1 hb1 hb2 HC h
 have H1:=CM k1
 have H2:=CM k2
 clear k1 k2
 go_enter Tryz.func48,Tryz.ntmps48
 go_upto_region 1 with fail
 rw [←ul.out]
 clear ul
 generalize w.heap.size+1=bs at un ⊢
 generalize w.heap.size=bt at um ⊢
 obtain⟨b0,bf⟩:=aq um.out
 obtain⟨x0,x1,x2,x3,x4,x5,x6⟩:=aC un.out
 go_wp2_with ((go_at_call 67;refine(HQ.out _ _ HK.out).mono ?_;(first|(rw [H1.out])|(rw [H2.out]));rintro e1 w1 ⟨rfl,hk2⟩;replace HK:=CM (HK.out.trans hk2 (fun _ h=>h.elim));clear hk2 b0 bf x0 x1 x2 x3 x4 x5 x6;obtain⟨b0,bf⟩:=aq (aj HK.out um.out);obtain⟨x0,x1,x2,x3,x4,x5,x6⟩:=aC (aj HK.out un.out)))
 go_ret
 exact⟨rfl,uB.out.trans HK.out (fun _ h=>h.elim)⟩
theorem may_11 {w:World}{cv:Value}{c:List Bool}(col  frm oth:Int)(v:Val)(h:bu w cv c)(k1:aB c col=2)(k2:aB c frm=1)(hc:¬col<1) :
  Calls Tryz.prog 48 #[.agg #[cv],.agg (SetM.cells ⟨col,2,frm,oth,v⟩).toArray] w fun e w'=>e = .returned (.bool false)∧Kept (fun _=>False) w w':=by
 obtain⟨W1,hW1,hk1,hb1,hb2⟩:=bC w #[cv] (SetM.cells ⟨col,2,frm,oth,v⟩).toArray aX cI
 have HC:=CM (Rd.kept h hk1 (fun _ _ h=>h))
 have HQ:=CM (show ∀i W,Kept (fun _=>False) W1 W→Calls Tryz.prog 67 #[.agg #[cv],.int .i64 i] W fun e w'=>e = .returned (.int .i64 (aB c i))∧Kept (fun _=>False) W w' from fun i W k=>aN (Rd.kept HC.out k (fun _ _ h=>h)) i)
 have HV:=CM (aK v)
 have ul:=CM hW1
 have um:=CM hb1
 have un:=CM hb2
 have uB:=CM hk1
 have HK:=CM (Kept.refl (fun _=>False) W1)
 clear hW1 hk1 hb1 hb2 HC h
 have H1:=CM k1
 have H2:=CM k2
 clear k1 k2
 go_enter Tryz.func48,Tryz.ntmps48
 go_upto_region 1 with fail
 rw [←ul.out]
 clear ul
 generalize w.heap.size+1=bs at un ⊢
 generalize w.heap.size=bt at um ⊢
 obtain⟨b0,bf⟩:=aq um.out
 obtain⟨x0,x1,x2,x3,x4,x5,x6⟩:=aC un.out
 go_wp2_with ((go_at_call 67;refine(HQ.out _ _ HK.out).mono ?_;(first|(rw [H1.out])|(rw [H2.out]));rintro e1 w1 ⟨rfl,hk2⟩;replace HK:=CM (HK.out.trans hk2 (fun _ h=>h.elim));clear hk2 b0 bf x0 x1 x2 x3 x4 x5 x6;obtain⟨b0,bf⟩:=aq (aj HK.out um.out);obtain⟨x0,x1,x2,x3,x4,x5,x6⟩:=aC (aj HK.out un.out)))
 go_ret
 exact⟨rfl,uB.out.trans HK.out (fun _ h=>h.elim)⟩
theorem may_12 {w:World}{cv:Value}{c:List Bool}(col  frm oth:Int)(v:Val)(h:bu w cv c)(k1:aB c col=2)(k2:aB c frm=2)(hc:¬col<1) :
  Calls Tryz.prog 48 #[.agg #[cv],.agg (SetM.cells ⟨col,2,frm,oth,v⟩).toArray] w fun e w'=>e = .returned (.bool true)∧Kept (fun _=>False) w w':=by
 obtain⟨W1,hW1,hk1,hb1,hb2⟩:=bC w #[cv] (SetM.cells ⟨col,2,frm,oth,v⟩).toArray aX cI
 have HC:=CM (Rd.kept h hk1 (fun _ _ h=>h))
 have HQ:=CM (show ∀i W,Kept (fun _=>False) W1 W→Calls Tryz.prog 67 #[.agg #[cv],.int .i64 i] W fun e w'=>e = .returned (.int .i64 (aB c i))∧Kept (fun _=>False) W w' from fun i W k=>aN (Rd.kept HC.out k (fun _ _ h=>h)) i)
 have HV:=CM (aK v)
 have ul:=CM hW1
 have um:=CM hb1
 have un:=CM hb2
 have uB:=CM hk1
 have HK:=CM (Kept.refl (fun _=>False) W1)
 clear hW1 hk1 hb1 hb2 HC h
 have H1:=CM k1
 have H2:=CM k2
 clear k1 k2
 go_enter Tryz.func48,Tryz.ntmps48
 go_upto_region 1 with fail
 rw [←ul.out]
 clear ul
 generalize w.heap.size+1=bs at un ⊢
 generalize w.heap.size=bt at um ⊢
 obtain⟨b0,bf⟩:=aq um.out
 obtain⟨x0,x1,x2,x3,x4,x5,x6⟩:=aC un.out
 go_wp2_with ((go_at_call 67;refine(HQ.out _ _ HK.out).mono ?_;(first|(rw [H1.out])|(rw [H2.out]));rintro e1 w1 ⟨rfl,hk2⟩;replace HK:=CM (HK.out.trans hk2 (fun _ h=>h.elim));clear hk2 b0 bf x0 x1 x2 x3 x4 x5 x6;obtain⟨b0,bf⟩:=aq (aj HK.out um.out);obtain⟨x0,x1,x2,x3,x4,x5,x6⟩:=aC (aj HK.out un.out)))
 go_ret
 exact⟨rfl,uB.out.trans HK.out (fun _ h=>h.elim)⟩
theorem may_13 {w:World}{cv:Value}{c:List Bool}(col  frm oth:Int)(v:Val)(h:bu w cv c)(k1:aB c col=1)(k2:aB c frm=0)(hc:¬col<1) :
  Calls Tryz.prog 48 #[.agg #[cv],.agg (SetM.cells ⟨col,3,frm,oth,v⟩).toArray] w fun e w'=>e = .returned (.bool false)∧Kept (fun _=>False) w w':=by
 obtain⟨W1,hW1,hk1,hb1,hb2⟩:=bC w #[cv] (SetM.cells ⟨col,3,frm,oth,v⟩).toArray aX cI
 have HC:=CM (Rd.kept h hk1 (fun _ _ h=>h))
 have HQ:=CM (show ∀i W,Kept (fun _=>False) W1 W→Calls Tryz.prog 67 #[.agg #[cv],.int .i64 i] W fun e w'=>e = .returned (.int .i64 (aB c i))∧Kept (fun _=>False) W w' from fun i W k=>aN (Rd.kept HC.out k (fun _ _ h=>h)) i)
 have HV:=CM (aK v)
 have ul:=CM hW1
 have um:=CM hb1
 have un:=CM hb2
 have uB:=CM hk1
 have HK:=CM (Kept.refl (fun _=>False) W1)
 clear hW1 hk1 hb1 hb2 HC h
 have H1:=CM k1
 have H2:=CM k2
 clear k1 k2
 go_enter Tryz.func48,Tryz.ntmps48
 go_upto_region 1 with fail
 rw [←ul.out]
 clear ul
 generalize w.heap.size+1=bs at un ⊢
 generalize w.heap.size=bt at um ⊢
 obtain⟨b0,bf⟩:=aq um.out
 obtain⟨x0,x1,x2,x3,x4,x5,x6⟩:=aC un.out
 go_wp2_with ((go_at_call 67;refine(HQ.out _ _ HK.out).mono ?_;(first|(rw [H1.out])|(rw [H2.out]));rintro e1 w1 ⟨rfl,hk2⟩;replace HK:=CM (HK.out.trans hk2 (fun _ h=>h.elim));clear hk2 b0 bf x0 x1 x2 x3 x4 x5 x6;obtain⟨b0,bf⟩:=aq (aj HK.out um.out);obtain⟨x0,x1,x2,x3,x4,x5,x6⟩:=aC (aj HK.out un.out)))
 go_ret
 exact⟨rfl,uB.out.trans HK.out (fun _ h=>h.elim)⟩
theorem may_14 {w:World}{cv:Value}{c:List Bool}(col  frm oth:Int)(v:Val)(h:bu w cv c)(k1:aB c col=1)(k2:aB c frm=1)(r1:am v=false)(hc:¬col<1) :
  Calls Tryz.prog 48 #[.agg #[cv],.agg (SetM.cells ⟨col,3,frm,oth,v⟩).toArray] w fun e w'=>e = .returned (.bool false)∧Kept (fun _=>False) w w':=by
 obtain⟨W1,hW1,hk1,hb1,hb2⟩:=bC w #[cv] (SetM.cells ⟨col,3,frm,oth,v⟩).toArray aX cI
 have HC:=CM (Rd.kept h hk1 (fun _ _ h=>h))
 have HQ:=CM (show ∀i W,Kept (fun _=>False) W1 W→Calls Tryz.prog 67 #[.agg #[cv],.int .i64 i] W fun e w'=>e = .returned (.int .i64 (aB c i))∧Kept (fun _=>False) W w' from fun i W k=>aN (Rd.kept HC.out k (fun _ _ h=>h)) i)
 have HV:=CM (aK v)
 have ul:=CM hW1
 have um:=CM hb1
 have un:=CM hb2
 have uB:=CM hk1
 have HK:=CM (Kept.refl (fun _=>False) W1)
 clear hW1 hk1 hb1 hb2 HC h
 have H1:=CM k1
 have H2:=CM k2
 rw [r1]at HV
 clear k1 k2 r1
 go_enter Tryz.func48,Tryz.ntmps48
 go_upto_region 1 with fail
 rw [←ul.out]
 clear ul
 generalize w.heap.size+1=bs at un ⊢
 generalize w.heap.size=bt at um ⊢
 obtain⟨b0,bf⟩:=aq um.out
 obtain⟨x0,x1,x2,x3,x4,x5,x6⟩:=aC un.out
 go_wp2_with (first|(go_at_call 67;refine(HQ.out _ _ HK.out).mono ?_;(first|(rw [H1.out])|(rw [H2.out]));rintro e1 w1 ⟨rfl,hk2⟩;replace HK:=CM (HK.out.trans hk2 (fun _ h=>h.elim));clear hk2 b0 bf x0 x1 x2 x3 x4 x5 x6;obtain⟨b0,bf⟩:=aq (aj HK.out um.out);obtain⟨x0,x1,x2,x3,x4,x5,x6⟩:=aC (aj HK.out un.out))|(go_at_call 32;refine(HV.out _).mono ?_;rintro e1 w1 ⟨rfl,hk2⟩;replace HK:=CM (HK.out.trans hk2 (fun _ h=>h.elim));clear hk2 b0 bf x0 x1 x2 x3 x4 x5 x6;obtain⟨b0,bf⟩:=aq (aj HK.out um.out);obtain⟨x0,x1,x2,x3,x4,x5,x6⟩:=aC (aj HK.out un.out)))
 go_ret
 exact⟨rfl,uB.out.trans HK.out (fun _ h=>h.elim)⟩
theorem may_15 {w:World}{cv:Value}{c:List Bool}(col  frm oth:Int)(v:Val)(h:bu w cv c)(k1:aB c col=1)(k2:aB c frm=1)(r1:am v=true)(hc:¬col<1) :
  Calls Tryz.prog 48 #[.agg #[cv],.agg (SetM.cells ⟨col,3,frm,oth,v⟩).toArray] w fun e w'=>e = .returned (.bool (!v.t))∧Kept (fun _=>False) w w':=by
 obtain⟨W1,hW1,hk1,hb1,hb2⟩:=bC w #[cv] (SetM.cells ⟨col,3,frm,oth,v⟩).toArray aX cI
 have HC:=CM (Rd.kept h hk1 (fun _ _ h=>h))
 have HQ:=CM (show ∀i W,Kept (fun _=>False) W1 W→Calls Tryz.prog 67 #[.agg #[cv],.int .i64 i] W fun e w'=>e = .returned (.int .i64 (aB c i))∧Kept (fun _=>False) W w' from fun i W k=>aN (Rd.kept HC.out k (fun _ _ h=>h)) i)
 have HV:=CM (aK v)
 have ul:=CM hW1
 have um:=CM hb1
 have un:=CM hb2
 have uB:=CM hk1
 have HK:=CM (Kept.refl (fun _=>False) W1)
 clear hW1 hk1 hb1 hb2 HC h
 have H1:=CM k1
 have H2:=CM k2
 rw [r1]at HV
 clear k1 k2 r1
 go_enter Tryz.func48,Tryz.ntmps48
 go_upto_region 1 with fail
 rw [←ul.out]
 clear ul
 generalize w.heap.size+1=bs at un ⊢
 generalize w.heap.size=bt at um ⊢
 obtain⟨b0,bf⟩:=aq um.out
 obtain⟨x0,x1,x2,x3,x4,x5,x6⟩:=aC un.out
 go_wp2_with (first|(go_at_call 67;refine(HQ.out _ _ HK.out).mono ?_;(first|(rw [H1.out])|(rw [H2.out]));rintro e1 w1 ⟨rfl,hk2⟩;replace HK:=CM (HK.out.trans hk2 (fun _ h=>h.elim));clear hk2 b0 bf x0 x1 x2 x3 x4 x5 x6;obtain⟨b0,bf⟩:=aq (aj HK.out um.out);obtain⟨x0,x1,x2,x3,x4,x5,x6⟩:=aC (aj HK.out un.out))|(go_at_call 32;refine(HV.out _).mono ?_;rintro e1 w1 ⟨rfl,hk2⟩;replace HK:=CM (HK.out.trans hk2 (fun _ h=>h.elim));clear hk2 b0 bf x0 x1 x2 x3 x4 x5 x6;obtain⟨b0,bf⟩:=aq (aj HK.out um.out);obtain⟨x0,x1,x2,x3,x4,x5,x6⟩:=aC (aj HK.out un.out)))
 go_ret
 exact⟨rfl,uB.out.trans HK.out (fun _ h=>h.elim)⟩
theorem may_16 {w:World}{cv:Value}{c:List Bool}(col  frm oth:Int)(v:Val)(h:bu w cv c)(k1:aB c col=1)(k2:aB c frm=2)(hc:¬col<1) :
  Calls Tryz.prog 48 #[.agg #[cv],.agg (SetM.cells ⟨col,3,frm,oth,v⟩).toArray] w fun e w'=>e = .returned (.bool false)∧Kept (fun _=>False) w w':=by
 obtain⟨W1,hW1,hk1,hb1,hb2⟩:=bC w #[cv] (SetM.cells ⟨col,3,frm,oth,v⟩).toArray aX cI
 have HC:=CM (Rd.kept h hk1 (fun _ _ h=>h))
 have HQ:=CM (show ∀i W,Kept (fun _=>False) W1 W→Calls Tryz.prog 67 #[.agg #[cv],.int .i64 i] W fun e w'=>e = .returned (.int .i64 (aB c i))∧Kept (fun _=>False) W w' from fun i W k=>aN (Rd.kept HC.out k (fun _ _ h=>h)) i)
 have HV:=CM (aK v)
 have ul:=CM hW1
 have um:=CM hb1
 have un:=CM hb2
 have uB:=CM hk1
 have HK:=CM (Kept.refl (fun _=>False) W1)
 clear hW1 hk1 hb1 hb2 HC h
 have H1:=CM k1
 have H2:=CM k2
 clear k1 k2
 go_enter Tryz.func48,Tryz.ntmps48
 go_upto_region 1 with fail
 rw [←ul.out]
 clear ul
 generalize w.heap.size+1=bs at un ⊢
 generalize w.heap.size=bt at um ⊢
 obtain⟨b0,bf⟩:=aq um.out
 obtain⟨x0,x1,x2,x3,x4,x5,x6⟩:=aC un.out
 go_wp2_with ((go_at_call 67;refine(HQ.out _ _ HK.out).mono ?_;(first|(rw [H1.out])|(rw [H2.out]));rintro e1 w1 ⟨rfl,hk2⟩;replace HK:=CM (HK.out.trans hk2 (fun _ h=>h.elim));clear hk2 b0 bf x0 x1 x2 x3 x4 x5 x6;obtain⟨b0,bf⟩:=aq (aj HK.out um.out);obtain⟨x0,x1,x2,x3,x4,x5,x6⟩:=aC (aj HK.out un.out)))
 go_ret
 exact⟨rfl,uB.out.trans HK.out (fun _ h=>h.elim)⟩
theorem may_17 {w:World}{cv:Value}{c:List Bool}(col  frm oth:Int)(v:Val)(h:bu w cv c)(k1:aB c col=2)(hc:¬col<1) :
  Calls Tryz.prog 48 #[.agg #[cv],.agg (SetM.cells ⟨col,3,frm,oth,v⟩).toArray] w fun e w'=>e = .returned (.bool false)∧Kept (fun _=>False) w w':=by
 obtain⟨W1,hW1,hk1,hb1,hb2⟩:=bC w #[cv] (SetM.cells ⟨col,3,frm,oth,v⟩).toArray aX cI
 have HC:=CM (Rd.kept h hk1 (fun _ _ h=>h))
 have HQ:=CM (show ∀i W,Kept (fun _=>False) W1 W→Calls Tryz.prog 67 #[.agg #[cv],.int .i64 i] W fun e w'=>e = .returned (.int .i64 (aB c i))∧Kept (fun _=>False) W w' from fun i W k=>aN (Rd.kept HC.out k (fun _ _ h=>h)) i)
 have HV:=CM (aK v)
 have ul:=CM hW1
 have um:=CM hb1
 have un:=CM hb2
 have uB:=CM hk1
 have HK:=CM (Kept.refl (fun _=>False) W1)
 clear hW1 hk1 hb1 hb2 HC h
 have H1:=CM k1
 clear k1
 go_enter Tryz.func48,Tryz.ntmps48
 go_upto_region 1 with fail
 rw [←ul.out]
 clear ul
 generalize w.heap.size+1=bs at un ⊢
 generalize w.heap.size=bt at um ⊢
 obtain⟨b0,bf⟩:=aq um.out
 obtain⟨x0,x1,x2,x3,x4,x5,x6⟩:=aC un.out
 go_wp2_with ((go_at_call 67;refine(HQ.out _ _ HK.out).mono ?_;(first|(rw [H1.out]));rintro e1 w1 ⟨rfl,hk2⟩;replace HK:=CM (HK.out.trans hk2 (fun _ h=>h.elim));clear hk2 b0 bf x0 x1 x2 x3 x4 x5 x6;obtain⟨b0,bf⟩:=aq (aj HK.out um.out);obtain⟨x0,x1,x2,x3,x4,x5,x6⟩:=aC (aj HK.out un.out)))
 go_ret
 exact⟨rfl,uB.out.trans HK.out (fun _ h=>h.elim)⟩
theorem may_18 {w:World}{cv:Value}{c:List Bool}(col  frm oth:Int)(v:Val)(h:bu w cv c)(k1:aB c col=1)(k2:aB c frm=0)(hc:¬col<1) :
  Calls Tryz.prog 48 #[.agg #[cv],.agg (SetM.cells ⟨col,4,frm,oth,v⟩).toArray] w fun e w'=>e = .returned (.bool false)∧Kept (fun _=>False) w w':=by
 obtain⟨W1,hW1,hk1,hb1,hb2⟩:=bC w #[cv] (SetM.cells ⟨col,4,frm,oth,v⟩).toArray aX cI
 have HC:=CM (Rd.kept h hk1 (fun _ _ h=>h))
 have HQ:=CM (show ∀i W,Kept (fun _=>False) W1 W→Calls Tryz.prog 67 #[.agg #[cv],.int .i64 i] W fun e w'=>e = .returned (.int .i64 (aB c i))∧Kept (fun _=>False) W w' from fun i W k=>aN (Rd.kept HC.out k (fun _ _ h=>h)) i)
 have HV:=CM (aK v)
 have ul:=CM hW1
 have um:=CM hb1
 have un:=CM hb2
 have uB:=CM hk1
 have HK:=CM (Kept.refl (fun _=>False) W1)
 clear hW1 hk1 hb1 hb2 HC h
 have H1:=CM k1
 have H2:=CM k2
 clear k1 k2
 go_enter Tryz.func48,Tryz.ntmps48
 go_upto_region 1 with fail
 rw [←ul.out]
 clear ul
 generalize w.heap.size+1=bs at un ⊢
 generalize w.heap.size=bt at um ⊢
 obtain⟨b0,bf⟩:=aq um.out
 obtain⟨x0,x1,x2,x3,x4,x5,x6⟩:=aC un.out
 go_wp2_with ((go_at_call 67;refine(HQ.out _ _ HK.out).mono ?_;(first|(rw [H1.out])|(rw [H2.out]));rintro e1 w1 ⟨rfl,hk2⟩;replace HK:=CM (HK.out.trans hk2 (fun _ h=>h.elim));clear hk2 b0 bf x0 x1 x2 x3 x4 x5 x6;obtain⟨b0,bf⟩:=aq (aj HK.out um.out);obtain⟨x0,x1,x2,x3,x4,x5,x6⟩:=aC (aj HK.out un.out)))
 go_ret
 exact⟨rfl,uB.out.trans HK.out (fun _ h=>h.elim)⟩
theorem may_19 {w:World}{cv:Value}{c:List Bool}(col  frm oth:Int)(v:Val)(h:bu w cv c)(k1:aB c col=1)(k2:aB c frm=1)(r1:am v=false)(hc:¬col<1) :
  Calls Tryz.prog 48 #[.agg #[cv],.agg (SetM.cells ⟨col,4,frm,oth,v⟩).toArray] w fun e w'=>e = .returned (.bool false)∧Kept (fun _=>False) w w':=by
 obtain⟨W1,hW1,hk1,hb1,hb2⟩:=bC w #[cv] (SetM.cells ⟨col,4,frm,oth,v⟩).toArray aX cI
 have HC:=CM (Rd.kept h hk1 (fun _ _ h=>h))
 have HQ:=CM (show ∀i W,Kept (fun _=>False) W1 W→Calls Tryz.prog 67 #[.agg #[cv],.int .i64 i] W fun e w'=>e = .returned (.int .i64 (aB c i))∧Kept (fun _=>False) W w' from fun i W k=>aN (Rd.kept HC.out k (fun _ _ h=>h)) i)
 have HV:=CM (aK v)
 have ul:=CM hW1
 have um:=CM hb1
 have un:=CM hb2
 have uB:=CM hk1
 have HK:=CM (Kept.refl (fun _=>False) W1)
 clear hW1 hk1 hb1 hb2 HC h
 have H1:=CM k1
 have H2:=CM k2
 rw [r1]at HV
 clear k1 k2 r1
 go_enter Tryz.func48,Tryz.ntmps48
 go_upto_region 1 with fail
 rw [←ul.out]
 clear ul
 generalize w.heap.size+1=bs at un ⊢
 generalize w.heap.size=bt at um ⊢
 obtain⟨b0,bf⟩:=aq um.out
 obtain⟨x0,x1,x2,x3,x4,x5,x6⟩:=aC un.out
 go_wp2_with (first|(go_at_call 67;refine(HQ.out _ _ HK.out).mono ?_;(first|(rw [H1.out])|(rw [H2.out]));rintro e1 w1 ⟨rfl,hk2⟩;replace HK:=CM (HK.out.trans hk2 (fun _ h=>h.elim));clear hk2 b0 bf x0 x1 x2 x3 x4 x5 x6;obtain⟨b0,bf⟩:=aq (aj HK.out um.out);obtain⟨x0,x1,x2,x3,x4,x5,x6⟩:=aC (aj HK.out un.out))|(go_at_call 32;refine(HV.out _).mono ?_;rintro e1 w1 ⟨rfl,hk2⟩;replace HK:=CM (HK.out.trans hk2 (fun _ h=>h.elim));clear hk2 b0 bf x0 x1 x2 x3 x4 x5 x6;obtain⟨b0,bf⟩:=aq (aj HK.out um.out);obtain⟨x0,x1,x2,x3,x4,x5,x6⟩:=aC (aj HK.out un.out)))
 go_ret
 exact⟨rfl,uB.out.trans HK.out (fun _ h=>h.elim)⟩
theorem may_20 {w:World}{cv:Value}{c:List Bool}(col  frm oth:Int)(v:Val)(h:bu w cv c)(k1:aB c col=1)(k2:aB c frm=1)(r1:am v=true)(hc:¬col<1) :
  Calls Tryz.prog 48 #[.agg #[cv],.agg (SetM.cells ⟨col,4,frm,oth,v⟩).toArray] w fun e w'=>e = .returned (.bool (!v.t))∧Kept (fun _=>False) w w':=by
 obtain⟨W1,hW1,hk1,hb1,hb2⟩:=bC w #[cv] (SetM.cells ⟨col,4,frm,oth,v⟩).toArray aX cI
 have HC:=CM (Rd.kept h hk1 (fun _ _ h=>h))
 have HQ:=CM (show ∀i W,Kept (fun _=>False) W1 W→Calls Tryz.prog 67 #[.agg #[cv],.int .i64 i] W fun e w'=>e = .returned (.int .i64 (aB c i))∧Kept (fun _=>False) W w' from fun i W k=>aN (Rd.kept HC.out k (fun _ _ h=>h)) i)
 have HV:=CM (aK v)
 have ul:=CM hW1
 have um:=CM hb1
 have un:=CM hb2
 have uB:=CM hk1
 have HK:=CM (Kept.refl (fun _=>False) W1)
 clear hW1 hk1 hb1 hb2 HC h
 have H1:=CM k1
 have H2:=CM k2
 rw [r1]at HV
 clear k1 k2 r1
 go_enter Tryz.func48,Tryz.ntmps48
 go_upto_region 1 with fail
 rw [←ul.out]
 clear ul
 generalize w.heap.size+1=bs at un ⊢
 generalize w.heap.size=bt at um ⊢
 obtain⟨b0,bf⟩:=aq um.out
 obtain⟨x0,x1,x2,x3,x4,x5,x6⟩:=aC un.out
 go_wp2_with (first|(go_at_call 67;refine(HQ.out _ _ HK.out).mono ?_;(first|(rw [H1.out])|(rw [H2.out]));rintro e1 w1 ⟨rfl,hk2⟩;replace HK:=CM (HK.out.trans hk2 (fun _ h=>h.elim));clear hk2 b0 bf x0 x1 x2 x3 x4 x5 x6;obtain⟨b0,bf⟩:=aq (aj HK.out um.out);obtain⟨x0,x1,x2,x3,x4,x5,x6⟩:=aC (aj HK.out un.out))|(go_at_call 32;refine(HV.out _).mono ?_;rintro e1 w1 ⟨rfl,hk2⟩;replace HK:=CM (HK.out.trans hk2 (fun _ h=>h.elim));clear hk2 b0 bf x0 x1 x2 x3 x4 x5 x6;obtain⟨b0,bf⟩:=aq (aj HK.out um.out);obtain⟨x0,x1,x2,x3,x4,x5,x6⟩:=aC (aj HK.out un.out)))
 go_ret
 exact⟨rfl,uB.out.trans HK.out (fun _ h=>h.elim)⟩
theorem may_21 {w:World}{cv:Value}{c:List Bool}(col  frm oth:Int)(v:Val)(h:bu w cv c)(k1:aB c col=1)(k2:aB c frm=2)(hc:¬col<1) :
  Calls Tryz.prog 48 #[.agg #[cv],.agg (SetM.cells ⟨col,4,frm,oth,v⟩).toArray] w fun e w'=>e = .returned (.bool false)∧Kept (fun _=>False) w w':=by
 obtain⟨W1,hW1,hk1,hb1,hb2⟩:=bC w #[cv] (SetM.cells ⟨col,4,frm,oth,v⟩).toArray aX cI
 have HC:=CM (Rd.kept h hk1 (fun _ _ h=>h))
 have HQ:=CM (show ∀i W,Kept (fun _=>False) W1 W→Calls Tryz.prog 67 #[.agg #[cv],.int .i64 i] W fun e w'=>e = .returned (.int .i64 (aB c i))∧Kept (fun _=>False) W w' from fun i W k=>aN (Rd.kept HC.out k (fun _ _ h=>h)) i)
 have HV:=CM (aK v)
 have ul:=CM hW1
 have um:=CM hb1
 have un:=CM hb2
 have uB:=CM hk1
 have HK:=CM (Kept.refl (fun _=>False) W1)
 clear hW1 hk1 hb1 hb2 HC h
 have H1:=CM k1
 have H2:=CM k2
 clear k1 k2
 go_enter Tryz.func48,Tryz.ntmps48
 go_upto_region 1 with fail
 rw [←ul.out]
 clear ul
 generalize w.heap.size+1=bs at un ⊢
 generalize w.heap.size=bt at um ⊢
 obtain⟨b0,bf⟩:=aq um.out
 obtain⟨x0,x1,x2,x3,x4,x5,x6⟩:=aC un.out
 go_wp2_with ((go_at_call 67;refine(HQ.out _ _ HK.out).mono ?_;(first|(rw [H1.out])|(rw [H2.out]));rintro e1 w1 ⟨rfl,hk2⟩;replace HK:=CM (HK.out.trans hk2 (fun _ h=>h.elim));clear hk2 b0 bf x0 x1 x2 x3 x4 x5 x6;obtain⟨b0,bf⟩:=aq (aj HK.out um.out);obtain⟨x0,x1,x2,x3,x4,x5,x6⟩:=aC (aj HK.out un.out)))
 go_ret
 exact⟨rfl,uB.out.trans HK.out (fun _ h=>h.elim)⟩
theorem may_22 {w:World}{cv:Value}{c:List Bool}(col  frm oth:Int)(v:Val)(h:bu w cv c)(k1:aB c col=2)(hc:¬col<1) :
  Calls Tryz.prog 48 #[.agg #[cv],.agg (SetM.cells ⟨col,4,frm,oth,v⟩).toArray] w fun e w'=>e = .returned (.bool false)∧Kept (fun _=>False) w w':=by
 obtain⟨W1,hW1,hk1,hb1,hb2⟩:=bC w #[cv] (SetM.cells ⟨col,4,frm,oth,v⟩).toArray aX cI
 have HC:=CM (Rd.kept h hk1 (fun _ _ h=>h))
 have HQ:=CM (show ∀i W,Kept (fun _=>False) W1 W→Calls Tryz.prog 67 #[.agg #[cv],.int .i64 i] W fun e w'=>e = .returned (.int .i64 (aB c i))∧Kept (fun _=>False) W w' from fun i W k=>aN (Rd.kept HC.out k (fun _ _ h=>h)) i)
 have HV:=CM (aK v)
 have ul:=CM hW1
 have um:=CM hb1
 have un:=CM hb2
 have uB:=CM hk1
 have HK:=CM (Kept.refl (fun _=>False) W1)
 clear hW1 hk1 hb1 hb2 HC h
 have H1:=CM k1
 clear k1
 go_enter Tryz.func48,Tryz.ntmps48
 go_upto_region 1 with fail
 rw [←ul.out]
 clear ul
 generalize w.heap.size+1=bs at un ⊢
 generalize w.heap.size=bt at um ⊢
 obtain⟨b0,bf⟩:=aq um.out
 obtain⟨x0,x1,x2,x3,x4,x5,x6⟩:=aC un.out
 go_wp2_with ((go_at_call 67;refine(HQ.out _ _ HK.out).mono ?_;(first|(rw [H1.out]));rintro e1 w1 ⟨rfl,hk2⟩;replace HK:=CM (HK.out.trans hk2 (fun _ h=>h.elim));clear hk2 b0 bf x0 x1 x2 x3 x4 x5 x6;obtain⟨b0,bf⟩:=aq (aj HK.out um.out);obtain⟨x0,x1,x2,x3,x4,x5,x6⟩:=aC (aj HK.out un.out)))
 go_ret
 exact⟨rfl,uB.out.trans HK.out (fun _ h=>h.elim)⟩
theorem may_23 {w:World}{cv:Value}{c:List Bool}(col  frm oth:Int)(v:Val)(h:bu w cv c)(k1:aB c col=1)(k2:aB c frm=0)(hc:¬col<1) :
  Calls Tryz.prog 48 #[.agg #[cv],.agg (SetM.cells ⟨col,5,frm,oth,v⟩).toArray] w fun e w'=>e = .returned (.bool false)∧Kept (fun _=>False) w w':=by
 obtain⟨W1,hW1,hk1,hb1,hb2⟩:=bC w #[cv] (SetM.cells ⟨col,5,frm,oth,v⟩).toArray aX cI
 have HC:=CM (Rd.kept h hk1 (fun _ _ h=>h))
 have HQ:=CM (show ∀i W,Kept (fun _=>False) W1 W→Calls Tryz.prog 67 #[.agg #[cv],.int .i64 i] W fun e w'=>e = .returned (.int .i64 (aB c i))∧Kept (fun _=>False) W w' from fun i W k=>aN (Rd.kept HC.out k (fun _ _ h=>h)) i)
 have HV:=CM (aK v)
 have ul:=CM hW1
 have um:=CM hb1
 have un:=CM hb2
 have uB:=CM hk1
 have HK:=CM (Kept.refl (fun _=>False) W1)
 clear hW1 hk1 hb1 hb2 HC h
 have H1:=CM k1
 have H2:=CM k2
 clear k1 k2
 go_enter Tryz.func48,Tryz.ntmps48
 go_upto_region 1 with fail
 rw [←ul.out]
 clear ul
 generalize w.heap.size+1=bs at un ⊢
 generalize w.heap.size=bt at um ⊢
 obtain⟨b0,bf⟩:=aq um.out
 obtain⟨x0,x1,x2,x3,x4,x5,x6⟩:=aC un.out
 go_wp2_with ((go_at_call 67;refine(HQ.out _ _ HK.out).mono ?_;(first|(rw [H1.out])|(rw [H2.out]));rintro e1 w1 ⟨rfl,hk2⟩;replace HK:=CM (HK.out.trans hk2 (fun _ h=>h.elim));clear hk2 b0 bf x0 x1 x2 x3 x4 x5 x6;obtain⟨b0,bf⟩:=aq (aj HK.out um.out);obtain⟨x0,x1,x2,x3,x4,x5,x6⟩:=aC (aj HK.out un.out)))
 go_ret
 exact⟨rfl,uB.out.trans HK.out (fun _ h=>h.elim)⟩
theorem may_24 {w:World}{cv:Value}{c:List Bool}(col  frm oth:Int)(v:Val)(h:bu w cv c)(k1:aB c col=1)(k2:aB c frm=1)(r1:am v=false)(hc:¬col<1) :
  Calls Tryz.prog 48 #[.agg #[cv],.agg (SetM.cells ⟨col,5,frm,oth,v⟩).toArray] w fun e w'=>e = .returned (.bool false)∧Kept (fun _=>False) w w':=by
 obtain⟨W1,hW1,hk1,hb1,hb2⟩:=bC w #[cv] (SetM.cells ⟨col,5,frm,oth,v⟩).toArray aX cI
 have HC:=CM (Rd.kept h hk1 (fun _ _ h=>h))
 have HQ:=CM (show ∀i W,Kept (fun _=>False) W1 W→Calls Tryz.prog 67 #[.agg #[cv],.int .i64 i] W fun e w'=>e = .returned (.int .i64 (aB c i))∧Kept (fun _=>False) W w' from fun i W k=>aN (Rd.kept HC.out k (fun _ _ h=>h)) i)
 have HV:=CM (aK v)
 have ul:=CM hW1
 have um:=CM hb1
 have un:=CM hb2
 have uB:=CM hk1
 have HK:=CM (Kept.refl (fun _=>False) W1)
 clear hW1 hk1 hb1 hb2 HC h
 have H1:=CM k1
 have H2:=CM k2
 rw [r1]at HV
 clear k1 k2 r1
 go_enter Tryz.func48,Tryz.ntmps48
 go_upto_region 1 with fail
 rw [←ul.out]
 clear ul
 generalize w.heap.size+1=bs at un ⊢
 generalize w.heap.size=bt at um ⊢
 obtain⟨b0,bf⟩:=aq um.out
 obtain⟨x0,x1,x2,x3,x4,x5,x6⟩:=aC un.out
 go_wp2_with (first|(go_at_call 67;refine(HQ.out _ _ HK.out).mono ?_;(first|(rw [H1.out])|(rw [H2.out]));rintro e1 w1 ⟨rfl,hk2⟩;replace HK:=CM (HK.out.trans hk2 (fun _ h=>h.elim));clear hk2 b0 bf x0 x1 x2 x3 x4 x5 x6;obtain⟨b0,bf⟩:=aq (aj HK.out um.out);obtain⟨x0,x1,x2,x3,x4,x5,x6⟩:=aC (aj HK.out un.out))|(go_at_call 32;refine(HV.out _).mono ?_;rintro e1 w1 ⟨rfl,hk2⟩;replace HK:=CM (HK.out.trans hk2 (fun _ h=>h.elim));clear hk2 b0 bf x0 x1 x2 x3 x4 x5 x6;obtain⟨b0,bf⟩:=aq (aj HK.out um.out);obtain⟨x0,x1,x2,x3,x4,x5,x6⟩:=aC (aj HK.out un.out)))
 go_ret
 exact⟨rfl,uB.out.trans HK.out (fun _ h=>h.elim)⟩
theorem may_25 {w:World}{cv:Value}{c:List Bool}(col  frm oth:Int)(v:Val)(h:bu w cv c)(k1:aB c col=1)(k2:aB c frm=1)(r1:am v=true)(hc:¬col<1) :
  Calls Tryz.prog 48 #[.agg #[cv],.agg (SetM.cells ⟨col,5,frm,oth,v⟩).toArray] w fun e w'=>e = .returned (.bool (!v.t))∧Kept (fun _=>False) w w':=by
 obtain⟨W1,hW1,hk1,hb1,hb2⟩:=bC w #[cv] (SetM.cells ⟨col,5,frm,oth,v⟩).toArray aX cI
 have HC:=CM (Rd.kept h hk1 (fun _ _ h=>h))
 have HQ:=CM (show ∀i W,Kept (fun _=>False) W1 W→Calls Tryz.prog 67 #[.agg #[cv],.int .i64 i] W fun e w'=>e = .returned (.int .i64 (aB c i))∧Kept (fun _=>False) W w' from fun i W k=>aN (Rd.kept HC.out k (fun _ _ h=>h)) i)
 have HV:=CM (aK v)
 have ul:=CM hW1
 have um:=CM hb1
 have un:=CM hb2
 have uB:=CM hk1
 have HK:=CM (Kept.refl (fun _=>False) W1)
 clear hW1 hk1 hb1 hb2 HC h
 have H1:=CM k1
 have H2:=CM k2
 rw [r1]at HV
 clear k1 k2 r1
 go_enter Tryz.func48,Tryz.ntmps48
 go_upto_region 1 with fail
 rw [←ul.out]
 clear ul
 generalize w.heap.size+1=bs at un ⊢
 generalize w.heap.size=bt at um ⊢
 obtain⟨b0,bf⟩:=aq um.out
 obtain⟨x0,x1,x2,x3,x4,x5,x6⟩:=aC un.out
 go_wp2_with (first|(go_at_call 67;refine(HQ.out _ _ HK.out).mono ?_;(first|(rw [H1.out])|(rw [H2.out]));rintro e1 w1 ⟨rfl,hk2⟩;replace HK:=CM (HK.out.trans hk2 (fun _ h=>h.elim));clear hk2 b0 bf x0 x1 x2 x3 x4 x5 x6;obtain⟨b0,bf⟩:=aq (aj HK.out um.out);obtain⟨x0,x1,x2,x3,x4,x5,x6⟩:=aC (aj HK.out un.out))|(go_at_call 32;refine(HV.out _).mono ?_;rintro e1 w1 ⟨rfl,hk2⟩;replace HK:=CM (HK.out.trans hk2 (fun _ h=>h.elim));clear hk2 b0 bf x0 x1 x2 x3 x4 x5 x6;obtain⟨b0,bf⟩:=aq (aj HK.out um.out);obtain⟨x0,x1,x2,x3,x4,x5,x6⟩:=aC (aj HK.out un.out)))
 go_ret
 exact⟨rfl,uB.out.trans HK.out (fun _ h=>h.elim)⟩
theorem may_26 {w:World}{cv:Value}{c:List Bool}(col  frm oth:Int)(v:Val)(h:bu w cv c)(k1:aB c col=1)(k2:aB c frm=2)(hc:¬col<1) :
  Calls Tryz.prog 48 #[.agg #[cv],.agg (SetM.cells ⟨col,5,frm,oth,v⟩).toArray] w fun e w'=>e = .returned (.bool false)∧Kept (fun _=>False) w w':=by
 obtain⟨W1,hW1,hk1,hb1,hb2⟩:=bC w #[cv] (SetM.cells ⟨col,5,frm,oth,v⟩).toArray aX cI
 have HC:=CM (Rd.kept h hk1 (fun _ _ h=>h))
 have HQ:=CM (show ∀i W,Kept (fun _=>False) W1 W→Calls Tryz.prog 67 #[.agg #[cv],.int .i64 i] W fun e w'=>e = .returned (.int .i64 (aB c i))∧Kept (fun _=>False) W w' from fun i W k=>aN (Rd.kept HC.out k (fun _ _ h=>h)) i)
 have HV:=CM (aK v)
 have ul:=CM hW1
 have um:=CM hb1
 have un:=CM hb2
 have uB:=CM hk1
 have HK:=CM (Kept.refl (fun _=>False) W1)
 clear hW1 hk1 hb1 hb2 HC h
 have H1:=CM k1
 have H2:=CM k2
 clear k1 k2
 go_enter Tryz.func48,Tryz.ntmps48
 go_upto_region 1 with fail
 rw [←ul.out]
 clear ul
 generalize w.heap.size+1=bs at un ⊢
 generalize w.heap.size=bt at um ⊢
 obtain⟨b0,bf⟩:=aq um.out
 obtain⟨x0,x1,x2,x3,x4,x5,x6⟩:=aC un.out
 go_wp2_with ((go_at_call 67;refine(HQ.out _ _ HK.out).mono ?_;(first|(rw [H1.out])|(rw [H2.out]));rintro e1 w1 ⟨rfl,hk2⟩;replace HK:=CM (HK.out.trans hk2 (fun _ h=>h.elim));clear hk2 b0 bf x0 x1 x2 x3 x4 x5 x6;obtain⟨b0,bf⟩:=aq (aj HK.out um.out);obtain⟨x0,x1,x2,x3,x4,x5,x6⟩:=aC (aj HK.out un.out)))
 go_ret
 exact⟨rfl,uB.out.trans HK.out (fun _ h=>h.elim)⟩
theorem may_27 {w:World}{cv:Value}{c:List Bool}(col  frm oth:Int)(v:Val)(h:bu w cv c)(k1:aB c col=2)(hc:¬col<1) :
  Calls Tryz.prog 48 #[.agg #[cv],.agg (SetM.cells ⟨col,5,frm,oth,v⟩).toArray] w fun e w'=>e = .returned (.bool false)∧Kept (fun _=>False) w w':=by
 obtain⟨W1,hW1,hk1,hb1,hb2⟩:=bC w #[cv] (SetM.cells ⟨col,5,frm,oth,v⟩).toArray aX cI
 have HC:=CM (Rd.kept h hk1 (fun _ _ h=>h))
 have HQ:=CM (show ∀i W,Kept (fun _=>False) W1 W→Calls Tryz.prog 67 #[.agg #[cv],.int .i64 i] W fun e w'=>e = .returned (.int .i64 (aB c i))∧Kept (fun _=>False) W w' from fun i W k=>aN (Rd.kept HC.out k (fun _ _ h=>h)) i)
 have HV:=CM (aK v)
 have ul:=CM hW1
 have um:=CM hb1
 have un:=CM hb2
 have uB:=CM hk1
 have HK:=CM (Kept.refl (fun _=>False) W1)
 clear hW1 hk1 hb1 hb2 HC h
 have H1:=CM k1
 clear k1
 go_enter Tryz.func48,Tryz.ntmps48
 go_upto_region 1 with fail
 rw [←ul.out]
 clear ul
 generalize w.heap.size+1=bs at un ⊢
 generalize w.heap.size=bt at um ⊢
 obtain⟨b0,bf⟩:=aq um.out
 obtain⟨x0,x1,x2,x3,x4,x5,x6⟩:=aC un.out
 go_wp2_with ((go_at_call 67;refine(HQ.out _ _ HK.out).mono ?_;(first|(rw [H1.out]));rintro e1 w1 ⟨rfl,hk2⟩;replace HK:=CM (HK.out.trans hk2 (fun _ h=>h.elim));clear hk2 b0 bf x0 x1 x2 x3 x4 x5 x6;obtain⟨b0,bf⟩:=aq (aj HK.out um.out);obtain⟨x0,x1,x2,x3,x4,x5,x6⟩:=aC (aj HK.out un.out)))
 go_ret
 exact⟨rfl,uB.out.trans HK.out (fun _ h=>h.elim)⟩
theorem may_28 {w:World}{cv:Value}{c:List Bool}(col  frm oth:Int)(v:Val)(h:bu w cv c)(k1:aB c col=1)(k2:aB c frm=0)(hc:¬col<1) :
  Calls Tryz.prog 48 #[.agg #[cv],.agg (SetM.cells ⟨col,6,frm,oth,v⟩).toArray] w fun e w'=>e = .returned (.bool false)∧Kept (fun _=>False) w w':=by
 obtain⟨W1,hW1,hk1,hb1,hb2⟩:=bC w #[cv] (SetM.cells ⟨col,6,frm,oth,v⟩).toArray aX cI
 have HC:=CM (Rd.kept h hk1 (fun _ _ h=>h))
 have HQ:=CM (show ∀i W,Kept (fun _=>False) W1 W→Calls Tryz.prog 67 #[.agg #[cv],.int .i64 i] W fun e w'=>e = .returned (.int .i64 (aB c i))∧Kept (fun _=>False) W w' from fun i W k=>aN (Rd.kept HC.out k (fun _ _ h=>h)) i)
 have HV:=CM (aK v)
 have ul:=CM hW1
 have um:=CM hb1
 have un:=CM hb2
 have uB:=CM hk1
 have HK:=CM (Kept.refl (fun _=>False) W1)
 clear hW1 hk1 hb1 hb2 HC h
 have H1:=CM k1
 have H2:=CM k2
 clear k1 k2
 go_enter Tryz.func48,Tryz.ntmps48
 go_upto_region 1 with fail
 rw [←ul.out]
 clear ul
 generalize w.heap.size+1=bs at un ⊢
 generalize w.heap.size=bt at um ⊢
 obtain⟨b0,bf⟩:=aq um.out
 obtain⟨x0,x1,x2,x3,x4,x5,x6⟩:=aC un.out
 go_wp2_with ((go_at_call 67;refine(HQ.out _ _ HK.out).mono ?_;(first|(rw [H1.out])|(rw [H2.out]));rintro e1 w1 ⟨rfl,hk2⟩;replace HK:=CM (HK.out.trans hk2 (fun _ h=>h.elim));clear hk2 b0 bf x0 x1 x2 x3 x4 x5 x6;obtain⟨b0,bf⟩:=aq (aj HK.out um.out);obtain⟨x0,x1,x2,x3,x4,x5,x6⟩:=aC (aj HK.out un.out)))
 go_ret
 exact⟨rfl,uB.out.trans HK.out (fun _ h=>h.elim)⟩
theorem may_29 {w:World}{cv:Value}{c:List Bool}(col  frm oth:Int)(v:Val)(h:bu w cv c)(k1:aB c col=1)(k2:aB c frm=1)(k3:aB c oth=0)(hc:¬col<1) :
  Calls Tryz.prog 48 #[.agg #[cv],.agg (SetM.cells ⟨col,6,frm,oth,v⟩).toArray] w fun e w'=>e = .returned (.bool false)∧Kept (fun _=>False) w w':=by
 obtain⟨W1,hW1,hk1,hb1,hb2⟩:=bC w #[cv] (SetM.cells ⟨col,6,frm,oth,v⟩).toArray aX cI
 have HC:=CM (Rd.kept h hk1 (fun _ _ h=>h))
 have HQ:=CM (show ∀i W,Kept (fun _=>False) W1 W→Calls Tryz.prog 67 #[.agg #[cv],.int .i64 i] W fun e w'=>e = .returned (.int .i64 (aB c i))∧Kept (fun _=>False) W w' from fun i W k=>aN (Rd.kept HC.out k (fun _ _ h=>h)) i)
 have HV:=CM (aK v)
 have ul:=CM hW1
 have um:=CM hb1
 have un:=CM hb2
 have uB:=CM hk1
 have HK:=CM (Kept.refl (fun _=>False) W1)
 clear hW1 hk1 hb1 hb2 HC h
 have H1:=CM k1
 have H2:=CM k2
 have H3:=CM k3
 clear k1 k2 k3
 go_enter Tryz.func48,Tryz.ntmps48
 go_upto_region 1 with fail
 rw [←ul.out]
 clear ul
 generalize w.heap.size+1=bs at un ⊢
 generalize w.heap.size=bt at um ⊢
 obtain⟨b0,bf⟩:=aq um.out
 obtain⟨x0,x1,x2,x3,x4,x5,x6⟩:=aC un.out
 go_wp2_with ((go_at_call 67;refine(HQ.out _ _ HK.out).mono ?_;(first|(rw [H1.out])|(rw [H2.out])|(rw [H3.out]));rintro e1 w1 ⟨rfl,hk2⟩;replace HK:=CM (HK.out.trans hk2 (fun _ h=>h.elim));clear hk2 b0 bf x0 x1 x2 x3 x4 x5 x6;obtain⟨b0,bf⟩:=aq (aj HK.out um.out);obtain⟨x0,x1,x2,x3,x4,x5,x6⟩:=aC (aj HK.out un.out)))
 go_ret
 exact⟨rfl,uB.out.trans HK.out (fun _ h=>h.elim)⟩
theorem may_30 {w:World}{cv:Value}{c:List Bool}(col  frm oth:Int)(v:Val)(h:bu w cv c)(k1:aB c col=1)(k2:aB c frm=1)(k3:aB c oth=1)(hc:¬col<1) :
  Calls Tryz.prog 48 #[.agg #[cv],.agg (SetM.cells ⟨col,6,frm,oth,v⟩).toArray] w fun e w'=>e = .returned (.bool true)∧Kept (fun _=>False) w w':=by
 obtain⟨W1,hW1,hk1,hb1,hb2⟩:=bC w #[cv] (SetM.cells ⟨col,6,frm,oth,v⟩).toArray aX cI
 have HC:=CM (Rd.kept h hk1 (fun _ _ h=>h))
 have HQ:=CM (show ∀i W,Kept (fun _=>False) W1 W→Calls Tryz.prog 67 #[.agg #[cv],.int .i64 i] W fun e w'=>e = .returned (.int .i64 (aB c i))∧Kept (fun _=>False) W w' from fun i W k=>aN (Rd.kept HC.out k (fun _ _ h=>h)) i)
 have HV:=CM (aK v)
 have ul:=CM hW1
 have um:=CM hb1
 have un:=CM hb2
 have uB:=CM hk1
 have HK:=CM (Kept.refl (fun _=>False) W1)
 clear hW1 hk1 hb1 hb2 HC h
 have H1:=CM k1
 have H2:=CM k2
 have H3:=CM k3
 clear k1 k2 k3
 go_enter Tryz.func48,Tryz.ntmps48
 go_upto_region 1 with fail
 rw [←ul.out]
 clear ul
 generalize w.heap.size+1=bs at un ⊢
 generalize w.heap.size=bt at um ⊢
 obtain⟨b0,bf⟩:=aq um.out
 obtain⟨x0,x1,x2,x3,x4,x5,x6⟩:=aC un.out
 go_wp2_with ((go_at_call 67;refine(HQ.out _ _ HK.out).mono ?_;(first|(rw [H1.out])|(rw [H2.out])|(rw [H3.out]));rintro e1 w1 ⟨rfl,hk2⟩;replace HK:=CM (HK.out.trans hk2 (fun _ h=>h.elim));clear hk2 b0 bf x0 x1 x2 x3 x4 x5 x6;obtain⟨b0,bf⟩:=aq (aj HK.out um.out);obtain⟨x0,x1,x2,x3,x4,x5,x6⟩:=aC (aj HK.out un.out)))
 go_ret
 exact⟨rfl,uB.out.trans HK.out (fun _ h=>h.elim)⟩
theorem may_31 {w:World}{cv:Value}{c:List Bool}(col  frm oth:Int)(v:Val)(h:bu w cv c)(k1:aB c col=1)(k2:aB c frm=1)(k3:aB c oth=2)(hc:¬col<1) :
  Calls Tryz.prog 48 #[.agg #[cv],.agg (SetM.cells ⟨col,6,frm,oth,v⟩).toArray] w fun e w'=>e = .returned (.bool false)∧Kept (fun _=>False) w w':=by
 obtain⟨W1,hW1,hk1,hb1,hb2⟩:=bC w #[cv] (SetM.cells ⟨col,6,frm,oth,v⟩).toArray aX cI
 have HC:=CM (Rd.kept h hk1 (fun _ _ h=>h))
 have HQ:=CM (show ∀i W,Kept (fun _=>False) W1 W→Calls Tryz.prog 67 #[.agg #[cv],.int .i64 i] W fun e w'=>e = .returned (.int .i64 (aB c i))∧Kept (fun _=>False) W w' from fun i W k=>aN (Rd.kept HC.out k (fun _ _ h=>h)) i)
 have HV:=CM (aK v)
 have ul:=CM hW1
 have um:=CM hb1
 have un:=CM hb2
 have uB:=CM hk1
 have HK:=CM (Kept.refl (fun _=>False) W1)
 clear hW1 hk1 hb1 hb2 HC h
 have H1:=CM k1
 have H2:=CM k2
 have H3:=CM k3
 clear k1 k2 k3
 go_enter Tryz.func48,Tryz.ntmps48
 go_upto_region 1 with fail
 rw [←ul.out]
 clear ul
 generalize w.heap.size+1=bs at un ⊢
 generalize w.heap.size=bt at um ⊢
 obtain⟨b0,bf⟩:=aq um.out
 obtain⟨x0,x1,x2,x3,x4,x5,x6⟩:=aC un.out
 go_wp2_with ((go_at_call 67;refine(HQ.out _ _ HK.out).mono ?_;(first|(rw [H1.out])|(rw [H2.out])|(rw [H3.out]));rintro e1 w1 ⟨rfl,hk2⟩;replace HK:=CM (HK.out.trans hk2 (fun _ h=>h.elim));clear hk2 b0 bf x0 x1 x2 x3 x4 x5 x6;obtain⟨b0,bf⟩:=aq (aj HK.out um.out);obtain⟨x0,x1,x2,x3,x4,x5,x6⟩:=aC (aj HK.out un.out)))
 go_ret
 exact⟨rfl,uB.out.trans HK.out (fun _ h=>h.elim)⟩
theorem may_32 {w:World}{cv:Value}{c:List Bool}(col  frm oth:Int)(v:Val)(h:bu w cv c)(k1:aB c col=1)(k2:aB c frm=2)(hc:¬col<1) :
  Calls Tryz.prog 48 #[.agg #[cv],.agg (SetM.cells ⟨col,6,frm,oth,v⟩).toArray] w fun e w'=>e = .returned (.bool false)∧Kept (fun _=>False) w w':=by
 obtain⟨W1,hW1,hk1,hb1,hb2⟩:=bC w #[cv] (SetM.cells ⟨col,6,frm,oth,v⟩).toArray aX cI
 have HC:=CM (Rd.kept h hk1 (fun _ _ h=>h))
 have HQ:=CM (show ∀i W,Kept (fun _=>False) W1 W→Calls Tryz.prog 67 #[.agg #[cv],.int .i64 i] W fun e w'=>e = .returned (.int .i64 (aB c i))∧Kept (fun _=>False) W w' from fun i W k=>aN (Rd.kept HC.out k (fun _ _ h=>h)) i)
 have HV:=CM (aK v)
 have ul:=CM hW1
 have um:=CM hb1
 have un:=CM hb2
 have uB:=CM hk1
 have HK:=CM (Kept.refl (fun _=>False) W1)
 clear hW1 hk1 hb1 hb2 HC h
 have H1:=CM k1
 have H2:=CM k2
 clear k1 k2
 go_enter Tryz.func48,Tryz.ntmps48
 go_upto_region 1 with fail
 rw [←ul.out]
 clear ul
 generalize w.heap.size+1=bs at un ⊢
 generalize w.heap.size=bt at um ⊢
 obtain⟨b0,bf⟩:=aq um.out
 obtain⟨x0,x1,x2,x3,x4,x5,x6⟩:=aC un.out
 go_wp2_with ((go_at_call 67;refine(HQ.out _ _ HK.out).mono ?_;(first|(rw [H1.out])|(rw [H2.out]));rintro e1 w1 ⟨rfl,hk2⟩;replace HK:=CM (HK.out.trans hk2 (fun _ h=>h.elim));clear hk2 b0 bf x0 x1 x2 x3 x4 x5 x6;obtain⟨b0,bf⟩:=aq (aj HK.out um.out);obtain⟨x0,x1,x2,x3,x4,x5,x6⟩:=aC (aj HK.out un.out)))
 go_ret
 exact⟨rfl,uB.out.trans HK.out (fun _ h=>h.elim)⟩
theorem may_33 {w:World}{cv:Value}{c:List Bool}(col  frm oth:Int)(v:Val)(h:bu w cv c)(k1:aB c col=2)(hc:¬col<1) :
  Calls Tryz.prog 48 #[.agg #[cv],.agg (SetM.cells ⟨col,6,frm,oth,v⟩).toArray] w fun e w'=>e = .returned (.bool false)∧Kept (fun _=>False) w w':=by
 obtain⟨W1,hW1,hk1,hb1,hb2⟩:=bC w #[cv] (SetM.cells ⟨col,6,frm,oth,v⟩).toArray aX cI
 have HC:=CM (Rd.kept h hk1 (fun _ _ h=>h))
 have HQ:=CM (show ∀i W,Kept (fun _=>False) W1 W→Calls Tryz.prog 67 #[.agg #[cv],.int .i64 i] W fun e w'=>e = .returned (.int .i64 (aB c i))∧Kept (fun _=>False) W w' from fun i W k=>aN (Rd.kept HC.out k (fun _ _ h=>h)) i)
 have HV:=CM (aK v)
 have ul:=CM hW1
 have um:=CM hb1
 have un:=CM hb2
 have uB:=CM hk1
 have HK:=CM (Kept.refl (fun _=>False) W1)
 clear hW1 hk1 hb1 hb2 HC h
 have H1:=CM k1
 clear k1
 go_enter Tryz.func48,Tryz.ntmps48
 go_upto_region 1 with fail
 rw [←ul.out]
 clear ul
 generalize w.heap.size+1=bs at un ⊢
 generalize w.heap.size=bt at um ⊢
 obtain⟨b0,bf⟩:=aq um.out
 obtain⟨x0,x1,x2,x3,x4,x5,x6⟩:=aC un.out
 go_wp2_with ((go_at_call 67;refine(HQ.out _ _ HK.out).mono ?_;(first|(rw [H1.out]));rintro e1 w1 ⟨rfl,hk2⟩;replace HK:=CM (HK.out.trans hk2 (fun _ h=>h.elim));clear hk2 b0 bf x0 x1 x2 x3 x4 x5 x6;obtain⟨b0,bf⟩:=aq (aj HK.out um.out);obtain⟨x0,x1,x2,x3,x4,x5,x6⟩:=aC (aj HK.out un.out)))
 go_ret
 exact⟨rfl,uB.out.trans HK.out (fun _ h=>h.elim)⟩
theorem may_34 {w:World}{cv:Value}{c:List Bool}(col op frm oth:Int)(v:Val)(h:bu w cv c)(k1:aB c col=1)(hc:¬col<1)(o1:¬op=1)(o2:¬op=2)(o3:¬op=3)(o4:¬op=4)(o5:¬op=5)(o6:¬op=6) :
  Calls Tryz.prog 48 #[.agg #[cv],.agg (SetM.cells ⟨col,op,frm,oth,v⟩).toArray] w fun e w'=>e = .returned (.bool false)∧Kept (fun _=>False) w w':=by
 obtain⟨W1,hW1,hk1,hb1,hb2⟩:=bC w #[cv] (SetM.cells ⟨col,op,frm,oth,v⟩).toArray aX cI
 have HC:=CM (Rd.kept h hk1 (fun _ _ h=>h))
 have HQ:=CM (show ∀i W,Kept (fun _=>False) W1 W→Calls Tryz.prog 67 #[.agg #[cv],.int .i64 i] W fun e w'=>e = .returned (.int .i64 (aB c i))∧Kept (fun _=>False) W w' from fun i W k=>aN (Rd.kept HC.out k (fun _ _ h=>h)) i)
 have HV:=CM (aK v)
 have ul:=CM hW1
 have um:=CM hb1
 have un:=CM hb2
 have uB:=CM hk1
 have HK:=CM (Kept.refl (fun _=>False) W1)
 clear hW1 hk1 hb1 hb2 HC h
 have H1:=CM k1
 clear k1
 go_enter Tryz.func48,Tryz.ntmps48
 go_upto_region 1 with fail
 rw [←ul.out]
 clear ul
 generalize w.heap.size+1=bs at un ⊢
 generalize w.heap.size=bt at um ⊢
 obtain⟨b0,bf⟩:=aq um.out
 obtain⟨x0,x1,x2,x3,x4,x5,x6⟩:=aC un.out
 go_wp2_with ((go_at_call 67;refine(HQ.out _ _ HK.out).mono ?_;(first|(rw [H1.out]));rintro e1 w1 ⟨rfl,hk2⟩;replace HK:=CM (HK.out.trans hk2 (fun _ h=>h.elim));clear hk2 b0 bf x0 x1 x2 x3 x4 x5 x6;obtain⟨b0,bf⟩:=aq (aj HK.out um.out);obtain⟨x0,x1,x2,x3,x4,x5,x6⟩:=aC (aj HK.out un.out)))
 go_ret
 exact⟨rfl,uB.out.trans HK.out (fun _ h=>h.elim)⟩
theorem may_35 {w:World}{cv:Value}{c:List Bool}(col op frm oth:Int)(v:Val)(h:bu w cv c)(k1:aB c col=2)(hc:¬col<1)(o1:¬op=1)(o2:¬op=2)(o3:¬op=3)(o4:¬op=4)(o5:¬op=5)(o6:¬op=6) :
  Calls Tryz.prog 48 #[.agg #[cv],.agg (SetM.cells ⟨col,op,frm,oth,v⟩).toArray] w fun e w'=>e = .returned (.bool false)∧Kept (fun _=>False) w w':=by
 obtain⟨W1,hW1,hk1,hb1,hb2⟩:=bC w #[cv] (SetM.cells ⟨col,op,frm,oth,v⟩).toArray aX cI
 have HC:=CM (Rd.kept h hk1 (fun _ _ h=>h))
 have HQ:=CM (show ∀i W,Kept (fun _=>False) W1 W→Calls Tryz.prog 67 #[.agg #[cv],.int .i64 i] W fun e w'=>e = .returned (.int .i64 (aB c i))∧Kept (fun _=>False) W w' from fun i W k=>aN (Rd.kept HC.out k (fun _ _ h=>h)) i)
 have HV:=CM (aK v)
 have ul:=CM hW1
 have um:=CM hb1
 have un:=CM hb2
 have uB:=CM hk1
 have HK:=CM (Kept.refl (fun _=>False) W1)
 clear hW1 hk1 hb1 hb2 HC h
 have H1:=CM k1
 clear k1
 go_enter Tryz.func48,Tryz.ntmps48
 go_upto_region 1 with fail
 rw [←ul.out]
 clear ul
 generalize w.heap.size+1=bs at un ⊢
 generalize w.heap.size=bt at um ⊢
 obtain⟨b0,bf⟩:=aq um.out
 obtain⟨x0,x1,x2,x3,x4,x5,x6⟩:=aC un.out
 go_wp2_with ((go_at_call 67;refine(HQ.out _ _ HK.out).mono ?_;(first|(rw [H1.out]));rintro e1 w1 ⟨rfl,hk2⟩;replace HK:=CM (HK.out.trans hk2 (fun _ h=>h.elim));clear hk2 b0 bf x0 x1 x2 x3 x4 x5 x6;obtain⟨b0,bf⟩:=aq (aj HK.out um.out);obtain⟨x0,x1,x2,x3,x4,x5,x6⟩:=aC (aj HK.out un.out)))
 go_ret
 exact⟨rfl,uB.out.trans HK.out (fun _ h=>h.elim)⟩
theorem rP {w:World}{cv:Value}{c:List Bool}(h:bu w cv c)(s:SetM) :
  Calls Tryz.prog 48 #[.agg #[cv],.agg s.cells.toArray] w fun e w'=>e = .returned (.bool (aP c s))∧Kept (fun _=>False) w w':=by
 obtain⟨col,op,frm,oth,v⟩:=s
 by_cases hc:col<1
 ·refine(may_1 col op frm oth v h hc).mono (fun e w' hh=>⟨hh.1.trans ?_,hh.2⟩)
  congr 2;unfold aP;simp [hc]
 rcases du c col with k1|k1
 ·refine(may_2 col op frm oth v h k1 hc).mono (fun e w' hh=>⟨hh.1.trans ?_,hh.2⟩)
  congr 2;unfold aP;simp [hc,k1]
 by_cases o1:op=1
 ·subst o1
  rcases k1 with k1|k1
  ·cases r1:am v
   ·refine(may_3 col  frm oth v h k1 r1 hc).mono (fun e w' hh=>⟨hh.1.trans ?_,hh.2⟩)
    congr 2;unfold aP;simp [hc,k1,r1]
   ·refine(may_4 col  frm oth v h k1 r1 hc).mono (fun e w' hh=>⟨hh.1.trans ?_,hh.2⟩)
    congr 2;unfold aP;simp [hc,k1,r1]
  ·cases r1:am v
   ·refine(may_5 col  frm oth v h k1 r1 hc).mono (fun e w' hh=>⟨hh.1.trans ?_,hh.2⟩)
    congr 2;unfold aP;simp [hc,k1,r1]
   ·refine(may_6 col  frm oth v h k1 r1 hc).mono (fun e w' hh=>⟨hh.1.trans ?_,hh.2⟩)
    congr 2;unfold aP;simp [hc,k1,r1]
 by_cases o2:op=2
 ·subst o2
  rcases k1 with k1|k1<;>rcases du c frm with k2|k2|k2
  ·refine(may_7 col  frm oth v h k1 k2 hc).mono (fun e w' hh=>⟨hh.1.trans ?_,hh.2⟩)
   congr 2;unfold aP;simp [hc,k1,k2]
  ·refine(may_8 col  frm oth v h k1 k2 hc).mono (fun e w' hh=>⟨hh.1.trans ?_,hh.2⟩)
   congr 2;unfold aP;simp [hc,k1,k2]
  ·refine(may_9 col  frm oth v h k1 k2 hc).mono (fun e w' hh=>⟨hh.1.trans ?_,hh.2⟩)
   congr 2;unfold aP;simp [hc,k1,k2]
  ·refine(may_10 col  frm oth v h k1 k2 hc).mono (fun e w' hh=>⟨hh.1.trans ?_,hh.2⟩)
   congr 2;unfold aP;simp [hc,k1,k2]
  ·refine(may_11 col  frm oth v h k1 k2 hc).mono (fun e w' hh=>⟨hh.1.trans ?_,hh.2⟩)
   congr 2;unfold aP;simp [hc,k1,k2]
  ·refine(may_12 col  frm oth v h k1 k2 hc).mono (fun e w' hh=>⟨hh.1.trans ?_,hh.2⟩)
   congr 2;unfold aP;simp [hc,k1,k2]
 by_cases o3:op=3
 ·subst o3
  rcases k1 with k1|k1
  ·rcases du c frm with k2|k2|k2
   ·refine(may_13 col  frm oth v h k1 k2 hc).mono (fun e w' hh=>⟨hh.1.trans ?_,hh.2⟩)
    congr 2;unfold aP;simp [hc,k1,k2]
   ·cases r1:am v
    ·refine(may_14 col  frm oth v h k1 k2 r1 hc).mono (fun e w' hh=>⟨hh.1.trans ?_,hh.2⟩)
     congr 2;unfold aP;simp [hc,k1,k2,r1]
    ·refine(may_15 col  frm oth v h k1 k2 r1 hc).mono (fun e w' hh=>⟨hh.1.trans ?_,hh.2⟩)
     congr 2;unfold aP;simp [hc,k1,k2,r1]
   ·refine(may_16 col  frm oth v h k1 k2 hc).mono (fun e w' hh=>⟨hh.1.trans ?_,hh.2⟩)
    congr 2;unfold aP;simp [hc,k1,k2]
  ·refine(may_17 col  frm oth v h k1 hc).mono (fun e w' hh=>⟨hh.1.trans ?_,hh.2⟩)
   congr 2;unfold aP;simp [hc,k1]
 by_cases o4:op=4
 ·subst o4
  rcases k1 with k1|k1
  ·rcases du c frm with k2|k2|k2
   ·refine(may_18 col  frm oth v h k1 k2 hc).mono (fun e w' hh=>⟨hh.1.trans ?_,hh.2⟩)
    congr 2;unfold aP;simp [hc,k1,k2]
   ·cases r1:am v
    ·refine(may_19 col  frm oth v h k1 k2 r1 hc).mono (fun e w' hh=>⟨hh.1.trans ?_,hh.2⟩)
     congr 2;unfold aP;simp [hc,k1,k2,r1]
    ·refine(may_20 col  frm oth v h k1 k2 r1 hc).mono (fun e w' hh=>⟨hh.1.trans ?_,hh.2⟩)
     congr 2;unfold aP;simp [hc,k1,k2,r1]
   ·refine(may_21 col  frm oth v h k1 k2 hc).mono (fun e w' hh=>⟨hh.1.trans ?_,hh.2⟩)
    congr 2;unfold aP;simp [hc,k1,k2]
  ·refine(may_22 col  frm oth v h k1 hc).mono (fun e w' hh=>⟨hh.1.trans ?_,hh.2⟩)
   congr 2;unfold aP;simp [hc,k1]
 by_cases o5:op=5
 ·subst o5
  rcases k1 with k1|k1
  ·rcases du c frm with k2|k2|k2
   ·refine(may_23 col  frm oth v h k1 k2 hc).mono (fun e w' hh=>⟨hh.1.trans ?_,hh.2⟩)
    congr 2;unfold aP;simp [hc,k1,k2]
   ·cases r1:am v
    ·refine(may_24 col  frm oth v h k1 k2 r1 hc).mono (fun e w' hh=>⟨hh.1.trans ?_,hh.2⟩)
     congr 2;unfold aP;simp [hc,k1,k2,r1]
    ·refine(may_25 col  frm oth v h k1 k2 r1 hc).mono (fun e w' hh=>⟨hh.1.trans ?_,hh.2⟩)
     congr 2;unfold aP;simp [hc,k1,k2,r1]
   ·refine(may_26 col  frm oth v h k1 k2 hc).mono (fun e w' hh=>⟨hh.1.trans ?_,hh.2⟩)
    congr 2;unfold aP;simp [hc,k1,k2]
  ·refine(may_27 col  frm oth v h k1 hc).mono (fun e w' hh=>⟨hh.1.trans ?_,hh.2⟩)
   congr 2;unfold aP;simp [hc,k1]
 by_cases o6:op=6
 ·subst o6
  rcases k1 with k1|k1
  ·rcases du c frm with k2|k2|k2
   ·refine(may_28 col  frm oth v h k1 k2 hc).mono (fun e w' hh=>⟨hh.1.trans ?_,hh.2⟩)
    congr 2;unfold aP;simp [hc,k1,k2]
   ·rcases du c oth with k3|k3|k3
    ·refine(may_29 col  frm oth v h k1 k2 k3 hc).mono (fun e w' hh=>⟨hh.1.trans ?_,hh.2⟩)
     congr 2;unfold aP;simp [hc,k1,k2,k3]
    ·refine(may_30 col  frm oth v h k1 k2 k3 hc).mono (fun e w' hh=>⟨hh.1.trans ?_,hh.2⟩)
     congr 2;unfold aP;simp [hc,k1,k2,k3]
    ·refine(may_31 col  frm oth v h k1 k2 k3 hc).mono (fun e w' hh=>⟨hh.1.trans ?_,hh.2⟩)
     congr 2;unfold aP;simp [hc,k1,k2,k3]
   ·refine(may_32 col  frm oth v h k1 k2 hc).mono (fun e w' hh=>⟨hh.1.trans ?_,hh.2⟩)
    congr 2;unfold aP;simp [hc,k1,k2]
  ·refine(may_33 col  frm oth v h k1 hc).mono (fun e w' hh=>⟨hh.1.trans ?_,hh.2⟩)
   congr 2;unfold aP;simp [hc,k1]
 rcases k1 with k1|k1
 ·refine(may_34 col op frm oth v h k1 hc o1 o2 o3 o4 o5 o6).mono (fun e w' hh=>⟨hh.1.trans ?_,hh.2⟩)
  congr 2;unfold aP;simp [hc,k1,o1,o2,o3,o4,o5,o6]
 ·refine(may_35 col op frm oth v h k1 hc o1 o2 o3 o4 o5 o6).mono (fun e w' hh=>⟨hh.1.trans ?_,hh.2⟩)
  congr 2;unfold aP;simp [hc,k1,o1,o2,o3,o4,o5,o6]
end Go.Proofs.YtdobimafhbfkhaaGreat
