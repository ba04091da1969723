/- Joined texts: Whether a predicate may be (pred.Check). An oracle as data: tables of rows, sets, statements; what a transaction's steps come to. What kind a column is, and whether a set may be (row.kind, row.may). (printed by genok1.py) -/
import Derived.Test.YtdobimafhbfkhaaGreatON9
import Derived.Test.YtdobimafhbfkhaaGreatON3
import Derived.Test.YtdobimafhbfkhaaGreatON5
set_option maxHeartbeats 64000000
namespace Go.Proofs.YtdobimafhbfkhaaGreat
open Go.ChangeShapes Go.WideShapes Go.ChangeAt Go.RowKit
set_option maxRecDepth 100000
set_option linter.unusedSimpArgs false
abbrev tCk : TypeId := 112
mutual
def PredT.nodes : PredT → List PredT
 | .mk op col v w l => .mk op col v w l :: PredT.nodesL l
def PredT.nodesL : List PredT → List PredT
 | [] => []
 | p :: l => p.nodes ++ PredT.nodesL l
end
theorem jn : ∀ l : List PredT, PredT.nodesL l = l.flatMap PredT.nodes
 | [] => rfl
 | p :: l => by unfold PredT.nodesL; rw [jn l]; rfl
theorem kJ (op col : Int) (v w : Val) (l : List PredT) : (PredT.mk op col v w l).nodes = .mk op col v w l :: l.flatMap PredT.nodes := by
 conv => lhs; unfold PredT.nodes
 rw [jn]
def cR (c : List Bool) (i : Int) (v : Val) : Bool := decide (0 ≤ i) && decide (i < (c.length : Int)) && decide (v.t = c.getD i.toNat false) && ak v
def aJ (c : List Bool) (p : PredT) : Bool :=
 if p.op = 1 ∨ p.op = 2 then p.l.isEmpty
 else if 3 ≤ p.op ∧ p.op ≤ 8 then p.l.isEmpty && cR c p.col p.v
 else if p.op = 9 then p.l.isEmpty && cR c p.col p.v && cR c p.col p.w
 else if p.op = 10 then decide (p.l.length = 1)
 else if p.op = 11 ∨ p.op = 12 then decide (0 < p.l.length)
 else false
def dr (c : List Bool) (p : PredT) : Bool := p.nodes.all (aJ c) && decide (p.nodes.length ≤ 15)
theorem iu {w : World} {ck : Nat} {cv : Value} {b : Bool} {c : List Bool} (i : Int) (v : Val) (hk : w.heap[ck]? = some (.cells #[cv, .bool b] tCk (0, 0))) (hc : bu w cv c) :
  Calls Tryz.prog 66 #[.pointer (some ⟨ck, 0, none⟩), .int .i64 i, v.v] w fun e w' => e = .returned (.bool (cR c i v)) ∧ Kept (fun _ => False) w w' := by
 obtain ⟨W1, hW1, hk1, hbx, hb1⟩ := hZ hk #[.bool v.t, .int .i64 v.n, .string v.s] tV
 have HC := Bb (Rd.kept hc hk1.drew (fun _ _ h => h))
 obtain ⟨_, m1, ao, cap, rfl, _⟩ := hc
 have sL := Bb hW1
 have sQ := Bb hk1
 obtain ⟨d0, d1, df⟩ := aV hb1
 have tM := Bb hbx
 clear hk hW1 hk1 hbx hb1
 unfold maxLen at m1
 by_cases h1 : 0 ≤ i
 ·by_cases h2 : i < (c.length : Int)
  ·obtain ⟨k, rfl⟩ : ∃ k : Nat, i = (k : Int) := ⟨i.toNat, by omega⟩
   obtain ⟨x, hx⟩ : ∃ x, c[k]? = some x := ⟨c[k]'(by omega), List.getElem?_eq_getElem _⟩
   obtain ⟨cg, cog, rfl⟩ := mL HC.out hx rfl
   have hcc := jP HC.out hx
   have hg : c.getD ((k : Int)).toNat false = x := by rw [List.getD_eq_getElem?_getD, Int.toNat_natCast, hx]; rfl
   by_cases h3 : v.t = x
   ·subst h3
    have HV := Bb (show cR c (k : Int) v = ak v by unfold cR; rw [hg]; simp; omega)
    rw [HV.out]
    have HR := Bb (aG v)
    generalize ak v = rr at *
    generalize hN : c.length = N at *
    clear hx hg hN HC HV
    go_enter Tryz.func66, Tryz.ntmps66
    go_upto_region 1 with fail
    rw [← sL.out]
    clear sL
    generalize w.heap.size = bx at tM ⊢
    obtain ⟨x0, x1, x2, xf⟩ := aS tM.out
    refine af [(0, false, 27), (1, false, 27), (2, false, 27), (3, false, 27), (4, false, 27), (5, false, 27), (6, false, 27), (7, false, 27), (8, false, 27), (9, false, 27), (10, false, 27), (11, false, 27), (12, false, 27), (13, false, 27), (14, false, 27), (15, false, 27), (16, false, 27), (17, false, 27), (18, false, 27), (19, false, 27), (20, false, 27), (21, false, 27), (22, false, 27), (23, false, 27), (24, false, 27), (25, false, 27), (26, false, 27), (27, true, 0), (28, false, 999), (29, false, 999)] (by kernel_rfl) (by kernel_rfl) ?_
    iterate 3 (refine ae rfl rfl (fun K hK => ?_); go_simp; refine hK _ ?_; clear hK K)
    iterate 8 (first | (refine ar rfl rfl ?_; simp only [Act.put, Bc, Bd, Be, Bf, Bg, Bh]) | (refine al rfl rfl (fun K hK => ?_); go_simp; refine hK _ ?_; clear hK K))
    iterate 2 (refine ae rfl rfl (fun K hK => ?_); go_simp; refine hK _ ?_; clear hK K)
    iterate 11 (first | (refine ar rfl rfl ?_; simp only [Act.put, Bc, Bd, Be, Bf, Bg, Bh]) | (refine al rfl rfl (fun K hK => ?_); go_simp; refine hK _ ?_; clear hK K))
    iterate 2 (refine ae rfl rfl (fun K hK => ?_); go_simp; refine hK _ ?_; clear hK K)
    first | (refine ar rfl rfl ?_; simp only [Act.put, Bc, Bd, Be, Bf, Bg, Bh]) | (refine al rfl rfl (fun K hK => ?_); go_simp; refine hK _ ?_; clear hK K)
    refine ag rfl ?_
    refine am rfl (fun K hK => ?_)
    go_simp
    refine (HR.out _).mono ?_
    rintro e4 w4 ⟨rfl, hk5⟩
    have tF := Bb (sQ.out.drew.trans hk5 (fun _ h => h.elim))
    clear hk5 x0 x1 x2 xf d0 d1 df hcc
    refine hK _ _ ?_
    clear hK K
    refine wpList_nil ?_
    refine And.intro ?_ ?_
    ·go_simp
    iterate 2 (refine ae rfl rfl (fun K hK => ?_); go_simp; refine hK _ ?_; clear hK K)
    refine ah ?_
    go_wp2_with fail
    go_ret
    exact ⟨rfl, tF.out⟩
   ·have HV := Bb (show cR c (k : Int) v = false by unfold cR; rw [hg]; simp [h3])
    obtain rfl : x = !v.t := by cases x <;> cases h : v.t <;> simp_all
    rw [HV.out]
    generalize hN : c.length = N at *
    clear hx hg hN HC HV h3
    go_enter Tryz.func66, Tryz.ntmps66
    go_upto_region 1 with fail
    rw [← sL.out]
    clear sL
    generalize w.heap.size = bx at tM ⊢
    obtain ⟨x0, x1, x2, xf⟩ := aS tM.out
    refine af [(0, false, 27), (1, false, 27), (2, false, 27), (3, false, 27), (4, false, 27), (5, false, 27), (6, false, 27), (7, false, 27), (8, false, 27), (9, false, 27), (10, false, 27), (11, false, 27), (12, false, 27), (13, false, 27), (14, false, 27), (15, false, 27), (16, false, 27), (17, false, 27), (18, false, 27), (19, false, 27), (20, false, 27), (21, false, 27), (22, false, 27), (23, false, 27), (24, false, 27), (25, false, 27), (26, false, 27), (27, true, 0), (28, false, 999), (29, false, 999)] (by kernel_rfl) (by kernel_rfl) ?_
    iterate 3 (refine ae rfl rfl (fun K hK => ?_); go_simp; refine hK _ ?_; clear hK K)
    iterate 8 (first | (refine ar rfl rfl ?_; simp only [Act.put, Bc, Bd, Be, Bf, Bg, Bh]) | (refine al rfl rfl (fun K hK => ?_); go_simp; refine hK _ ?_; clear hK K))
    iterate 2 (refine ae rfl rfl (fun K hK => ?_); go_simp; refine hK _ ?_; clear hK K)
    iterate 11 (first | (refine ar rfl rfl ?_; simp only [Act.put, Bc, Bd, Be, Bf, Bg, Bh]) | (refine al rfl rfl (fun K hK => ?_); go_simp; refine hK _ ?_; clear hK K))
    iterate 2 (refine ae rfl rfl (fun K hK => ?_); go_simp; refine hK _ ?_; clear hK K)
    first | (refine ar rfl rfl ?_; simp only [Act.put, Bc, Bd, Be, Bf, Bg, Bh]) | (refine al rfl rfl (fun K hK => ?_); go_simp; refine hK _ ?_; clear hK K)
    refine ag rfl ?_
    refine bQ rfl ?_
    simp only [Act.put, Bc, Bd, Be]
    refine wpList_nil ?_
    refine And.intro ?_ ?_
    ·go_simp
    iterate 2 (refine ae rfl rfl (fun K hK => ?_); go_simp; refine hK _ ?_; clear hK K)
    refine ah ?_
    go_wp2_with fail
    go_ret
    exact ⟨rfl, sQ.out.drew⟩
  ·have HV := Bb (show cR c i v = false by unfold cR; rw [decide_eq_false h2]; simp)
   rw [HV.out]
   clear HC HV
   go_enter Tryz.func66, Tryz.ntmps66
   go_upto_region 1 with fail
   rw [← sL.out]
   clear sL
   generalize w.heap.size = bx at tM ⊢
   refine af [(0, false, 27), (1, false, 27), (2, false, 27), (3, false, 27), (4, false, 27), (5, false, 27), (6, false, 27), (7, false, 27), (8, false, 27), (9, false, 27), (10, false, 27), (11, false, 27), (12, false, 27), (13, false, 27), (14, false, 27), (15, false, 27), (16, false, 27), (17, false, 27), (18, false, 27), (19, false, 27), (20, false, 27), (21, false, 27), (22, false, 27), (23, false, 27), (24, false, 27), (25, false, 27), (26, false, 27), (27, true, 0), (28, false, 999), (29, false, 999)] (by kernel_rfl) (by kernel_rfl) ?_
   iterate 3 (refine ae rfl rfl (fun K hK => ?_); go_simp; refine hK _ ?_; clear hK K)
   iterate 8 (first | (refine ar rfl rfl ?_; simp only [Act.put, Bc, Bd, Be, Bf, Bg, Bh]) | (refine al rfl rfl (fun K hK => ?_); go_simp; refine hK _ ?_; clear hK K))
   iterate 2 (refine ae rfl rfl (fun K hK => ?_); go_simp; refine hK _ ?_; clear hK K)
   iterate 11 (first | (refine ar rfl rfl ?_; simp only [Act.put, Bc, Bd, Be, Bf, Bg, Bh]) | (refine al rfl rfl (fun K hK => ?_); go_simp; refine hK _ ?_; clear hK K))
   iterate 2 (refine ae rfl rfl (fun K hK => ?_); go_simp; refine hK _ ?_; clear hK K)
   first | (refine ar rfl rfl ?_; simp only [Act.put, Bc, Bd, Be, Bf, Bg, Bh]) | (refine al rfl rfl (fun K hK => ?_); go_simp; refine hK _ ?_; clear hK K)
   refine ag rfl ?_
   refine bQ rfl ?_
   simp only [Act.put, Bc, Bd, Be]
   refine wpList_nil ?_
   refine And.intro ?_ ?_
   ·go_simp
   iterate 2 (refine ae rfl rfl (fun K hK => ?_); go_simp; refine hK _ ?_; clear hK K)
   refine ah ?_
   go_wp2_with fail
   go_ret
   exact ⟨rfl, sQ.out.drew⟩
 ·have HV := Bb (show cR c i v = false by unfold cR; rw [decide_eq_false h1]; simp)
  rw [HV.out]
  clear HC HV
  go_enter Tryz.func66, Tryz.ntmps66
  go_upto_region 1 with fail
  rw [← sL.out]
  clear sL
  generalize w.heap.size = bx at tM ⊢
  refine af [(0, false, 27), (1, false, 27), (2, false, 27), (3, false, 27), (4, false, 27), (5, false, 27), (6, false, 27), (7, false, 27), (8, false, 27), (9, false, 27), (10, false, 27), (11, false, 27), (12, false, 27), (13, false, 27), (14, false, 27), (15, false, 27), (16, false, 27), (17, false, 27), (18, false, 27), (19, false, 27), (20, false, 27), (21, false, 27), (22, false, 27), (23, false, 27), (24, false, 27), (25, false, 27), (26, false, 27), (27, true, 0), (28, false, 999), (29, false, 999)] (by kernel_rfl) (by kernel_rfl) ?_
  iterate 3 (refine ae rfl rfl (fun K hK => ?_); go_simp; refine hK _ ?_; clear hK K)
  iterate 8 (first | (refine ar rfl rfl ?_; simp only [Act.put, Bc, Bd, Be, Bf, Bg, Bh]) | (refine al rfl rfl (fun K hK => ?_); go_simp; refine hK _ ?_; clear hK K))
  iterate 2 (refine ae rfl rfl (fun K hK => ?_); go_simp; refine hK _ ?_; clear hK K)
  iterate 11 (first | (refine ar rfl rfl ?_; simp only [Act.put, Bc, Bd, Be, Bf, Bg, Bh]) | (refine al rfl rfl (fun K hK => ?_); go_simp; refine hK _ ?_; clear hK K))
  iterate 2 (refine ae rfl rfl (fun K hK => ?_); go_simp; refine hK _ ?_; clear hK K)
  first | (refine ar rfl rfl ?_; simp only [Act.put, Bc, Bd, Be, Bf, Bg, Bh]) | (refine al rfl rfl (fun K hK => ?_); go_simp; refine hK _ ?_; clear hK K)
  refine ag rfl ?_
  refine bQ rfl ?_
  simp only [Act.put, Bc, Bd, Be]
  refine wpList_nil ?_
  refine And.intro ?_ ?_
  ·go_simp
  iterate 2 (refine ae rfl rfl (fun K hK => ?_); go_simp; refine hK _ ?_; clear hK K)
  refine ah ?_
  go_wp2_with fail
  go_ret
  exact ⟨rfl, sQ.out.drew⟩
end Go.Proofs.YtdobimafhbfkhaaGreat
namespace Go.Proofs.YtdobimafhbfkhaaGreat
set_option linter.unusedSimpArgs false
structure SetM where
 col : Int
 op : Int
 frm : Int
 oth : Int
 v : Val
structure StmM where
 kind : Int
 level : Int
 table : Int
 key : Val
 row : List Val
 sets : List SetM
 pred : PredT
 save : Int
 cursor : Int
 change : Bool
structure AnsM where
 e : Int
 rows : List (List Val)
 n : Int
abbrev au := List (List Val)
def aH (r : List Val) : Val := r.headD default
def aX (l : au) (k : Val) : Option (List Val) := l.find? (fun r => decide (aH r = k))
def cj (l : au) (r : List Val) : au := l.filter (fun q => decide (ai (aH q) (aH r) < 0)) ++ r :: l.filter (fun q => decide (0 < ai (aH q) (aH r)))
def du (l : au) (k : Val) : au := l.filter (fun q => !decide (ai (aH q) k = 0))
def cJ (l : au) (p : PredT) (s : Spn) : au := l.filter (fun r => bD s (aH r) && p.holds r)
def ay (c : List Bool) (i : Int) : Int := if i < 0 ∨ (c.length : Int) ≤ i then 0 else if c.getD i.toNat false then 2 else 1
def aU (c : List Bool) (s : SetM) : Bool :=
 if s.col < 1 ∨ ay c s.col = 0 then false else
 if s.op = 1 then ak s.v && decide (s.v.t = decide (ay c s.col = 2)) else
 if s.op = 2 then decide (ay c s.frm = ay c s.col) else
 if s.op = 3 ∨ s.op = 4 ∨ s.op = 5 then decide (ay c s.col = 1) && decide (ay c s.frm = 1) && ak s.v && !s.v.t else
 if s.op = 6 then decide (ay c s.col = 1) && decide (ay c s.frm = 1) && decide (ay c s.oth = 1) else false
def lX (l : List SetM) : Bool := decide ((l.map SetM.col).Nodup)
def dd (c : List Bool) (l : List SetM) : Bool := cH c && decide (l.length ≤ 3) && l.all (aU c) && lX l
def fq (n : Int) : Bool := decide (-9223372036854775808 ≤ n) && decide (n ≤ 9223372036854775807)
def da (n : Int) : Val := ⟨false, n, ⟨#[]⟩⟩
def eC (r : List Val) (i : Int) : Val := r.getD i.toNat default
def toS (r : List Val) (s : SetM) : Option Val :=
 if s.op = 1 then some s.v else if s.op = 2 then some (eC r s.frm) else
 let n := if s.op = 3 then (eC r s.frm).n + s.v.n else if s.op = 4 then (eC r s.frm).n - s.v.n else if s.op = 5 then (eC r s.frm).n * s.v.n else (eC r s.frm).n + (eC r s.oth).n
 if fq n then some (da n) else none
def fp (r : List Val) : List SetM → List Val → Option (List Val)
 | [], out => some out
 | s :: l, out => match toS r s with
  | none => none
  | some v => fp r l (out.set s.col.toNat v)
def cz (c : List Bool) (r : List Val) (l : List SetM) : List Val × Int :=
 if !bC c r then ([], 1) else if !cH c then ([], 1) else if !dd c l then ([], 20) else match fp r l r with
  | none => ([], 21)
  | some out => (out, 0)
def okS (cols : List (List Bool)) (s : StmM) : Bool :=
 let is := decide (0 ≤ s.table) && decide (s.table < (cols.length : Int)) && cH (cols.getD s.table.toNat [])
 let c := cols.getD s.table.toNat []
 let key := is && ak s.key && decide (s.key.t = c.getD 0 false)
 let holds := is && (cH c && dr c s.pred)
 let sets := is && dd c s.sets
 let cursor := decide (1 ≤ s.cursor) && decide (s.cursor ≤ 2)
 if s.kind = 4 ∨ s.kind = 5 then decide (1 ≤ s.save) && decide (s.save ≤ 3) else
 if s.kind = 6 ∨ s.kind = 9 then key else
 if s.kind = 7 then is && bC c s.row else
 if s.kind = 8 then key && sets else
 if s.kind = 10 ∨ s.kind = 12 then holds else
 if s.kind = 11 then holds && sets else
 if s.kind = 13 then holds && cursor && decide (s.pred.nodes.length ≤ 13) else
 if 14 ≤ s.kind ∧ s.kind ≤ 17 then cursor else false
structure CurM where
 opn : Bool
 change : Bool
 stands : Bool
 table : Int
 p : PredT
 frm : Spn
 key : Val
def pred0 : PredT := .mk 0 0 default default []
def bU : Spn := ⟨false, false, false, default, false, false, default⟩
def kW : CurM := ⟨false, false, false, 0, pred0, bU, default⟩
structure BefM where
 table : Int
 key : Val
 r : List Val
structure TxM where
 cols : List (List Bool)
 tabs : List au
 log : List BefM
 saves : List Int
 curs : List CurM
def dy (cols : List (List Bool)) (tabs : List au) : TxM := ⟨cols, tabs, [], [0, 0, 0, 0], [kW, kW, kW]⟩
def TxM.tab (x : TxM) (t : Int) : au := x.tabs.getD t.toNat []
def TxM.col (x : TxM) (t : Int) : List Bool := x.cols.getD t.toNat []
def TxM.lay (x : TxM) (t : Int) (l : au) : TxM := { x with tabs := x.tabs.set t.toNat l }
def TxM.put (x : TxM) (t : Int) (r : List Val) : TxM :=
 { x with log := x.log ++ [⟨t, aH r, (aX (x.tab t) (aH r)).getD []⟩], tabs := x.tabs.set t.toNat (cj (x.tab t) r) }
def TxM.out (x : TxM) (t : Int) (k : Val) : TxM :=
 { x with log := x.log ++ [⟨t, k, (aX (x.tab t) k).getD []⟩], tabs := x.tabs.set t.toNat (du (x.tab t) k) }
def TxM.hold (x : TxM) (t : Int) (p : PredT) (s : Spn) : au := cJ (x.tab t) p s
def bY (e : Int) : AnsM := ⟨e, [], 0⟩
def iU (n : Int) : AnsM := ⟨0, [], n⟩
def cp (c : List Bool) (sets : List SetM) : List (List Val) → List (List Val) → List (List Val) × Int
 | [], out => (out, 0)
 | r :: l, out => if (cz c r sets).2 = 0 then cp c sets l (out ++ [(cz c r sets).1]) else ([], (cz c r sets).2)
def TxM.all (x : TxM) (t : Int) (l : au) (sets : List SetM) : TxM × AnsM :=
 if (cp (x.col t) sets l []).2 = 0 then ((cp (x.col t) sets l []).1.foldl (fun y r => y.put t r) x, iU l.length) else (x, bY (cp (x.col t) sets l []).2)
def TxM.one (x : TxM) (t : Int) (k : Val) (sets : List SetM) : TxM × AnsM := match aX (x.tab t) k with
 | none => (x, bY 61)
 | some r => x.all t [r] sets
def TxM.drop (x : TxM) (t : Int) (k : Val) : TxM × AnsM := match aX (x.tab t) k with
 | none => (x, bY 61)
 | some _ => (x.out t k, iU 1)
def gv (tabs : List au) (b : BefM) : List au := tabs.set b.table.toNat (if b.r.isEmpty then du (tabs.getD b.table.toNat []) b.key else cj (tabs.getD b.table.toNat []) b.r)
def cK (tabs : List au) (l : List BefM) : List au := l.reverse.foldl gv tabs
def TxM.back (x : TxM) (n : Int) : TxM × AnsM :=
 if x.saves.getD n.toNat 0 = 0 then (x, bY 70) else
 let at_ := x.saves.getD n.toNat 0
 ({ x with tabs := cK x.tabs (x.log.drop (at_ - 1).toNat), log := x.log.take (at_ - 1).toNat, saves := x.saves.map (fun m => if at_ < m then 0 else m) }, bY 0)
def TxM.cur (x : TxM) (n : Int) : CurM := x.curs.getD n.toNat kW
def TxM.setCur (x : TxM) (n : Int) (c : CurM) : TxM := { x with curs := x.curs.set n.toNat c }
def TxM.fetch (x : TxM) (n : Int) : TxM × AnsM :=
 if !(x.cur n).opn then (x, bY 161) else
 match x.hold (x.cur n).table (x.cur n).p (x.cur n).frm with
 | [] => (x.setCur n { x.cur n with stands := false }, bY 162)
 | r :: _ => (x.setCur n { x.cur n with stands := true, key := aH r, frm := ⟨false, true, true, aH r, false, false, default⟩ }, ⟨0, [r], 0⟩)
def TxM.at_ (x : TxM) (s : StmM) : TxM × AnsM :=
 if !(x.cur s.cursor).opn || !(x.cur s.cursor).stands || !(x.cur s.cursor).change then (x, bY 161) else
 if s.kind = 16 then x.drop (x.cur s.cursor).table (x.cur s.cursor).key else
 if !dd (x.col (x.cur s.cursor).table) s.sets then (x, bY 167) else x.one (x.cur s.cursor).table (x.cur s.cursor).key s.sets
def dn (x : TxM) (s : StmM) : TxM × AnsM :=
 if !okS x.cols s then (x, bY 167) else
 if s.kind = 4 then ({ x with saves := x.saves.set s.save.toNat ((x.log.length : Int) + 1) }, bY 0) else
 if s.kind = 5 then x.back s.save else
 if s.kind = 6 then (x, match aX (x.tab s.table) s.key with
  | none => bY 61
  | some r => ⟨0, [r], 0⟩) else
 if s.kind = 7 then (if (aX (x.tab s.table) (aH s.row)).isSome then (x, bY 60) else (x.put s.table s.row, iU 1)) else
 if s.kind = 8 then x.one s.table s.key s.sets else
 if s.kind = 9 then x.drop s.table s.key else
 if s.kind = 10 then (x, ⟨0, x.hold s.table s.pred bU, (x.hold s.table s.pred bU).length⟩) else
 if s.kind = 11 then x.all s.table (x.hold s.table s.pred bU) s.sets else
 if s.kind = 12 then ((x.hold s.table s.pred bU).foldl (fun y r => y.out s.table (aH r)) x, iU (x.hold s.table s.pred bU).length) else
 if s.kind = 13 then (x.setCur s.cursor ⟨true, s.change, false, s.table, s.pred, bU, default⟩, bY 0) else
 if s.kind = 14 then x.fetch s.cursor else
 if s.kind = 17 then (if (x.cur s.cursor).opn then (x.setCur s.cursor kW, bY 0) else (x, bY 161)) else x.at_ s
def cI (x : TxM) : List StmM → TxM × List AnsM
 | [] => (x, [])
 | s :: l => let y := dn x s; let z := cI y.1 l; (z.1, y.2 :: z.2)
structure OrM where
 cols : List (List Bool)
 tabs : List au
def OrM.run (o : OrM) (l : List StmM) : OrM × List AnsM := let z := cI (dy o.cols o.tabs) l; (⟨o.cols, z.1.tabs⟩, z.2)
def gS (cols : List (List Bool)) : OrM := ⟨cols, List.replicate cols.length []⟩
def fS (cols : List (List Bool)) : Bool := decide (1 ≤ cols.length) && decide (cols.length ≤ 3) && cols.all cH
end Go.Proofs.YtdobimafhbfkhaaGreat
namespace Go.Proofs.YtdobimafhbfkhaaGreat
open Go.ChangeShapes Go.WideShapes Go.ChangeAt Go.RowKit
set_option maxRecDepth 100000
set_option linter.unusedSimpArgs false
abbrev cB : TypeId := 70
def SetM.cells (s : SetM) : List Value := [.int .i64 s.col, .int .i64 s.op, .int .i64 s.frm, .int .i64 s.oth, .bool s.v.t, .int .i64 s.v.n, .string s.v.s]
theorem SetM.len (s : SetM) : s.cells.length = 7 := rfl
theorem SetM.one (s : SetM) : ∀ u ∈ s.cells, u.oneCell' = true := by intro u hu; simp [SetM.cells] at hu; rcases hu with rfl | rfl | rfl | rfl | rfl | rfl | rfl <;> rfl
@[go_sem] theorem sizeSet (x : SetM) : x.cells.toArray.size = 7 := rfl
theorem pG {w : World} {g o : Nat} {x : SetM} (h : w.rangeAt g o x.cells) : (loadVar cB ⟨g, o, none⟩).run Tryz.prog w = .ok (.agg x.cells.toArray) w := run_loadVar_mid w g o _ _ _ h Tryz.underlying70 rfl (by kernel_rfl)
theorem az {w : World} {b : Nat} {x : SetM} {t : TypeId} {fr : Nat × Nat} (h : w.heap[b]? = some (.cells x.cells.toArray t fr)) :
  w.cell? ⟨b, 0, none⟩ = some (.int .i64 x.col) ∧ w.cell? ⟨b, 1, none⟩ = some (.int .i64 x.op) ∧ w.cell? ⟨b, 2, none⟩ = some (.int .i64 x.frm) ∧ w.cell? ⟨b, 3, none⟩ = some (.int .i64 x.oth) ∧
   w.cell? ⟨b, 4, none⟩ = some (.bool x.v.t) ∧ w.cell? ⟨b, 5, none⟩ = some (.int .i64 x.v.n) ∧ w.cell? ⟨b, 6, none⟩ = some (.string x.v.s) := by
 refine ⟨?_, ?_, ?_, ?_, ?_, ?_, ?_⟩ <;> simp [World.cell?, h, SetM.cells]
theorem dl (c : List Bool) (i : Int) : ay c i = 0 ∨ ay c i = 1 ∨ ay c i = 2 := by
 unfold ay
 split
 ·exact .inl rfl
 ·split
  ·exact .inr (.inr rfl)
  ·exact .inr (.inl rfl)
theorem aK {w : World} {cv : Value} {c : List Bool} (h : bu w cv c) (i : Int) :
  Calls Tryz.prog 67 #[.agg #[cv], .int .i64 i] w fun e w' => e = .returned (.int .i64 (ay c i)) ∧ Kept (fun _ => False) w w' := by
 have HK := Bb (show Kept (fun _ => False) w (w.alloc (.cells #[cv] bw)) from (Kept.refl _ _).alloc _)
 have HC := Bb (Rd.kept h HK.out (fun _ _ h => h))
 obtain ⟨_, m1, ao, cap, rfl, _⟩ := h
 unfold maxLen at m1
 by_cases h0 : i < 0
 ·have HM := Bb (show ay c i = 0 by unfold ay; rw [if_pos (.inl h0)])
  go_enter Tryz.func67, Tryz.ntmps67
  go_wp2_with fail
  go_ret
  rw [HM.out]
  exact ⟨rfl, HK.out⟩
 by_cases h1 : (c.length : Int) ≤ i
 ·have HM := Bb (show ay c i = 0 by unfold ay; rw [if_pos (.inr h1)])
  go_enter Tryz.func67, Tryz.ntmps67
  go_wp2_with fail
  go_ret
  rw [HM.out]
  exact ⟨rfl, HK.out⟩
 obtain ⟨k, rfl⟩ : ∃ k : Nat, i = (k : Int) := ⟨i.toNat, by omega⟩
 obtain ⟨x, hx⟩ : ∃ x, c[k]? = some x := ⟨c[k]'(by omega), List.getElem?_eq_getElem _⟩
 obtain ⟨cg, cog, rfl⟩ := mL HC.out hx rfl
 have hcc := jP HC.out hx
 have hg : c.getD ((k : Int)).toNat false = x := by rw [List.getD_eq_getElem?_getD, Int.toNat_natCast, hx]; rfl
 have HM := Bb (show ay c k = if x then 2 else 1 by unfold ay; rw [if_neg (by omega), hg])
 generalize hN : c.length = N at *
 have h2 : ¬ (N : Int) ≤ (k : Int) := by omega
 have h3 : (k : Int) < (N : Int) := by omega
 rw [HM.out]
 clear HC hx hg hN HM
 cases x
 all_goals
  go_enter Tryz.func67, Tryz.ntmps67
  go_wp2_with fail
  go_ret
  exact ⟨rfl, HK.out⟩
end Go.Proofs.YtdobimafhbfkhaaGreat
