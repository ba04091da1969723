/- Joined texts: Sums, differences and products of numbers (value.Add, Sub, Times). A row is cloned. -/
import Derived.Test.YtdobimafhbfkhaaGreatOT10
set_option maxHeartbeats 64000000
namespace Go.Proofs.YtdobimafhbfkhaaGreat
open Go.ChangeShapes Go.WideShapes Go.ChangeAt Go.RowKit
set_option maxRecDepth 100000
set_option linter.unusedSimpArgs false
def cL (n:Int):Prop := -9223372036854775808≤n∧n≤9223372036854775807
theorem kn {n:Int}:fP n=true↔cL n:=by unfold fP cL;simp
theorem tX {n:Int}:fP n=false↔¬cL n:=by rw [←kn];simp
def qf (n:Int):Value:=.tuple #[.int .i64 (if fP n then n else 0),.bool (fP n)]
theorem gm {n:Int}(h:cL n):qf n = .tuple #[.int .i64 n,.bool true]:=by unfold qf;rw [kn.2 h];rfl
theorem ng {n:Int}(h:¬cL n):qf n = .tuple #[.int .i64 0,.bool false]:=by unfold qf;rw [tX.2 h];rfl
theorem fh {n:Int}(h:cL n):wrap64 n=n:=by unfold cL at h;unfold wrap64;omega
theorem qB {a b:Int}(ha:cL a)(hb:cL b)(w:World):Calls Tryz.prog 141 #[.int .i64 a,.int .i64 b] w fun e w'=>e = .returned (qf (a+b))∧Kept (fun _=>False) w w':=by
 by_cases h:cL (a+b)
 ·rw [gm h]
  obtain⟨c,hw⟩:∃c,wrap64 (a+b)=c:=⟨_,rfl⟩
  have hn:a+b=c:=(fh h).symm.trans hw
  have h1:(decide (a<c) == decide (0<b))=true:=by
   by_cases h2:0<b
   ·rw [decide_eq_true h2,decide_eq_true (show a<c by omega)];rfl
   ·rw [decide_eq_false h2,decide_eq_false (show ¬a<c by omega)];rfl
  rw [hn]
  clear ha hb h hn
  go_enter Tryz.func141,Tryz.ntmps141
  go_wp2_with fail
  all_goals first|(go_ret2;exact⟨rfl,Kept.refl _ _⟩)|(go_ret2;subst hw;exact⟨rfl,Kept.refl _ _⟩)|(exfalso;simp_all)
 ·rw [ng h]
  obtain⟨c,hw⟩:∃c,wrap64 (a+b)=c:=⟨_,rfl⟩
  have h1:(decide (a<c) == decide (0<b))=false:=by
   unfold cL at *
   unfold wrap64 at hw
   by_cases h2:0<b
   ·rw [decide_eq_true h2,decide_eq_false (show ¬a<c by omega)];rfl
   ·rw [decide_eq_false h2,decide_eq_true (show a<c by omega)];rfl
  clear ha hb h
  go_enter Tryz.func141,Tryz.ntmps141
  go_wp2_with fail
  all_goals first|(go_ret2;exact⟨rfl,Kept.refl _ _⟩)|(go_ret2;subst hw;exact⟨rfl,Kept.refl _ _⟩)|(exfalso;simp_all)
theorem vsub_ok {a b:Int}(ha:cL a)(hb:cL b)(w:World):Calls Tryz.prog 142 #[.int .i64 a,.int .i64 b] w fun e w'=>e = .returned (qf (a-b))∧Kept (fun _=>False) w w':=by
 by_cases h:cL (a-b)
 ·rw [gm h]
  obtain⟨c,hw⟩:∃c,wrap64 (a-b)=c:=⟨_,rfl⟩
  have hn:a-b=c:=(fh h).symm.trans hw
  have h1:(decide (c<a) == decide (0<b))=true:=by
   by_cases h2:0<b
   ·rw [decide_eq_true h2,decide_eq_true (show c<a by omega)];rfl
   ·rw [decide_eq_false h2,decide_eq_false (show ¬c<a by omega)];rfl
  rw [hn]
  clear ha hb h hn
  go_enter Tryz.func142,Tryz.ntmps142
  go_wp2_with fail
  all_goals first|(go_ret2;exact⟨rfl,Kept.refl _ _⟩)|(go_ret2;subst hw;exact⟨rfl,Kept.refl _ _⟩)|(exfalso;simp_all)
 ·rw [ng h]
  obtain⟨c,hw⟩:∃c,wrap64 (a-b)=c:=⟨_,rfl⟩
  have h1:(decide (c<a) == decide (0<b))=false:=by
   unfold cL at *
   unfold wrap64 at hw
   by_cases h2:0<b
   ·rw [decide_eq_true h2,decide_eq_false (show ¬c<a by omega)];rfl
   ·rw [decide_eq_false h2,decide_eq_true (show c<a by omega)];rfl
  clear ha hb h
  go_enter Tryz.func142,Tryz.ntmps142
  go_wp2_with fail
  all_goals first|(go_ret2;exact⟨rfl,Kept.refl _ _⟩)|(go_ret2;subst hw;exact⟨rfl,Kept.refl _ _⟩)|(exfalso;simp_all)
theorem qQ {a b c:Int}(ha:cL a)(hb:cL b)(hb0:b≠0)(h:¬cL (a*b))(hc:wrap64 (a*b)=c)(hq:wrap64 (c.tdiv b)=a):b = -1∧a = -9223372036854775808:=by
 have e1:=Int.mul_tdiv_add_tmod c b
 have e2:(c.tmod b).natAbs=c.natAbs%b.natAbs:=Int.natAbs_tmod c b
 have e3:c.natAbs%b.natAbs<b.natAbs:=Nat.mod_lt _ (by omega)
 have e4:(c.tdiv b).natAbs=c.natAbs / b.natAbs:=Int.natAbs_tdiv c b
 have e5:c.natAbs / b.natAbs≤c.natAbs:=Nat.div_le_self _ _
 generalize c.tmod b=r at *
 generalize hd:c.tdiv b=d at *
 by_cases hi:cL d
 ·rw [fh hi]at hq
  subst hq
  rw [Int.mul_comm b d]at e1
  generalize d*b=p at *
  unfold cL at *
  unfold wrap64 at hc
  omega
 ·have h0:d=9223372036854775808:=by unfold cL at *;unfold wrap64 at hc;omega
  subst h0
  have ha2:a = -9223372036854775808:=by rw [←hq];unfold wrap64;omega
  refine⟨?_,ha2⟩
  by_cases hb1:2≤b.natAbs
  ·exfalso
   have:c.natAbs / b.natAbs≤c.natAbs / 2:=Nat.div_le_div_left hb1 (by decide)
   unfold wrap64 at hc
   omega
  ·have:b=1∨b = -1:=by omega
   rcases this with rfl|rfl
   ·exfalso
    unfold wrap64 at hc
    omega
   ·rfl
theorem ru {a b:Int}(ha:cL a)(hb:cL b)(w:World):Calls Tryz.prog 143 #[.int .i64 a,.int .i64 b] w fun e w'=>e = .returned (qf (a*b))∧Kept (fun _=>False) w w':=by
 by_cases a0:a=0
 ·subst a0
  rw [gm (by simp [cL])]
  rw [Int.zero_mul]
  go_enter Tryz.func143,Tryz.ntmps143
  go_wp2_with fail
  go_ret2
  exact⟨rfl,Kept.refl _ _⟩
 by_cases b0:b=0
 ·subst b0
  rw [gm (by simp [cL])]
  rw [Int.mul_zero]
  go_enter Tryz.func143,Tryz.ntmps143
  go_wp2_with fail
  go_ret2
  exact⟨rfl,Kept.refl _ _⟩
 by_cases h:cL (a*b)
 ·rw [gm h]
  obtain⟨c,hw⟩:∃c,wrap64 (a*b)=c:=⟨_,rfl⟩
  have hn:a*b=c:=(fh h).symm.trans hw
  have hq:wrap64 (c.tdiv b)=a:=by rw [←hn,Int.mul_tdiv_cancel a b0];exact fh ha
  have e1:¬(a = -1∧b = -9223372036854775808):=by rintro⟨rfl,rfl⟩;simp [cL]at h
  have e2:¬(b = -1∧a = -9223372036854775808):=by rintro⟨rfl,rfl⟩;simp [cL]at h
  have E1:=CM e1
  have E2:=CM e2
  rw [hn]
  clear ha hb h e1 e2 hn
  go_enter Tryz.func143,Tryz.ntmps143
  go_wp2_with fail
  all_goals first|(go_ret2;exact⟨rfl,Kept.refl _ _⟩)|(exfalso;have e1:=E1.out;have e2:=E2.out;simp_all)
 ·rw [ng h]
  obtain⟨c,hw⟩:∃c,wrap64 (a*b)=c:=⟨_,rfl⟩
  obtain⟨d,hd⟩:∃d,wrap64 (c.tdiv b)=d:=⟨_,rfl⟩
  have E1:=CM (show d=a→b = -1∧a = -9223372036854775808 from fun e=>qQ ha hb b0 h hw (hd.trans e))
  clear ha hb h
  go_enter Tryz.func143,Tryz.ntmps143
  go_wp2_with fail
  all_goals first|(go_ret2;exact⟨rfl,Kept.refl _ _⟩)|(exfalso;have e1:=E1.out;simp_all)
theorem qm {B w:World}{D:PH}{l:List HP}{v:Value}{n:Nat}{xs:List Value}(hrd:Rd w 3 v n xs)(hone:∀u∈xs,u.oneCell'=true)(hb:n*32≤140737488355328)(hs:Sat B D w l) :
  Calls Tryz.prog 90 #[v] w fun e w'=>∃v',e = .returned v'∧Sat B D w' (aF 24 3 v' n xs::l):=by
 obtain⟨i0,hi,hz0,hz1,hz2⟩:=info_parts iU
 have hm:=hrd.2.1
 obtain⟨ao,cap,rfl,_,_,hnone,hcase⟩:=hrd.2.2
 cases ao with
 | none =>
  have h0:n=0:=by rcases hcase with h|⟨g,o,h,_⟩;exact h;cases h
  subst h0
  have hx:xs = []:=List.eq_nil_of_length_eq_zero (by simpa using hrd.1)
  subst hx
  have HS:=CM (hs.own_nil 24 3)
  clear hcase hnone hrd hz0 hz1 hz2 hi hb hs
  go_enter Tryz.func90,Tryz.ntmps90
  go_wp2_with fail
  go_ret
  exact⟨_,rfl,HS.out⟩
 | some a =>
  have hown:=Sat.own_fresh (e:=24) (size:=3) (n:=0) (cap:=0) (cs:=#[]) (xs:=[]) hs (by omega) (by omega) (by simp) (by simp) (by simp)
  have hrd2:Rd (w.alloc (.cells #[] 24)) 3 (.slice (some a) n cap) n xs:=hrd.kept ((Kept.refl (fun _=>False) _).alloc _) (fun _ _ h=>h)
  have HO:=CM hown
  have HR:=CM hrd2
  have HI:=CM (And.intro hi (And.intro hz0 (And.intro hz1 hz2)))
  clear hcase hnone hrd hz0 hz1 hz2 hi hs hown hrd2
  go_enter Tryz.func90,Tryz.ntmps90
  go_wp2_with (at_builtin;refine aI _ rfl _ _ 26 rfl 24 i0 _ 3 32 Tryz.underlying26 HI.out.1 HI.out.2.1 HI.out.2.2.1 HI.out.2.2.2 rfl _ 0 [] rfl HO.out _ n xs rfl HR.out hone (by omega) (by omega) ?_;intro v' w' h1 h2;simp only [Nat.zero_add,List.nil_append]at h1;have H1:=CM h1;clear h1 h2)
  go_ret
  exact⟨_,rfl,H1.out⟩
theorem gZ {B w:World}{D:PH}{l:List HP}{v:Value}{r:List Val}(hrd:eh w v r)(hb:r.length≤1000000)(hs:Sat B D w l) :
  Calls Tryz.prog 63 #[v] w fun e w'=>∃v',e = .returned v'∧Sat B D w' (aF 24 3 v' r.length (r.flatMap Val.cells)::l):=by
 have HC:=CM (qm hrd (fun u hu=>by obtain⟨x,_,hx⟩:=List.mem_flatMap.1 hu;exact Val.one x u hx) (by omega) hs)
 clear hrd hs
 go_enter Tryz.func63,Tryz.ntmps63
 go_wp2_with ((go_at_call 90;refine HC.out.mono ?_;rintro e1 w1 ⟨v1,rfl,hs1⟩;have uk:=CM hs1;clear hs1))
 go_ret
 exact⟨_,rfl,uk.out⟩
theorem aR {fn:Func}{a:Tmp}{ty:TypeId}(h:fn.results = #[.cell a ty])(tmps:Array Value)(w:World){g:Nat}{cs:Array Value}(ha:tmps.getD a undef = .pointer (some ⟨g,0,none⟩))(hl:(loadVar ty ⟨g,0,none⟩).run Tryz.prog w = .ok (.agg cs) w) :
  (results fn tmps).run Tryz.prog w = .ok (.agg cs) w:=by
 have ha':tmps[a]?.getD undef = .pointer (some ⟨g,0,none⟩):=by simpa using ha
 simp [results,h]
 rw [ha']
 simp [asAddr,hl]
theorem db {fn:Func}{a b:Tmp}{ty:TypeId}(h:fn.results = #[.cell a ty,.tmp b])(tmps:Array Value)(w:World){g:Nat}{cs:Array Value}(ha:tmps.getD a undef = .pointer (some ⟨g,0,none⟩))(hl:(loadVar ty ⟨g,0,none⟩).run Tryz.prog w = .ok (.agg cs) w) :
  (results fn tmps).run Tryz.prog w = .ok (.tuple #[.agg cs,tmps.getD b undef]) w:=by
 have ha':tmps[a]?.getD undef = .pointer (some ⟨g,0,none⟩):=by simpa using ha
 simp [results,h]
 rw [ha']
 simp [asAddr,hl]
theorem br {P:Program}{B w:World}{D:PH}{l:List HP}{ops:Array Oper}{rest:List Oper}{o:Oper}{a:Act}{Q:Exit→Act→World→Prop}(hgd:o.guard=none)(ty:TypeId)(x y:Operand)(ho:o.op = .store ty x y)(e:TypeId)(g:Nat)(hx:a.eval x = .pointer (some ⟨g,0,none⟩))(cs:List Value)(hy:a.eval y = .agg cs.toArray)(cur:Array Value)(hs:Sat B D w (blk g cur e::l))
  (hi:(P.info? ty).map (·.size)=some cs.length) (hfit:cur.size=cs.length) (h1:∀u∈cs,u.oneCell'=true)
  (h:∀w',Sat B D w' (blk g cs.toArray e::l)→wpList P ops Q rest (a.put o.dst undef) w'):wpList P ops Q (o::rest) a w :=
 dK hgd ty x y ho e g 0 hx cs hy cur.toList (by rw [Array.toArray_toList];exact hs) hi (by simp [hfit]) h1 (fun w' hs'=>h w' (by
  rw [show lay cur.toList 0 cs=cs by unfold lay;rw [List.take_zero,List.nil_append,Nat.zero_add,List.drop_of_length_le (by simp [hfit]),List.append_nil]]at hs'
  exact hs'))
end Go.Proofs.YtdobimafhbfkhaaGreat
