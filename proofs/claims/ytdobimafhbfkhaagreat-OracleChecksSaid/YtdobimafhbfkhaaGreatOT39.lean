/- What is taken back: a transaction's log is cut, its tables turn. -/
import Derived.Test.YtdobimafhbfkhaaGreatOT37
namespace Go.Proofs.YtdobimafhbfkhaaGreat
open Go.ChangeShapes Go.WideShapes Go.ChangeAt Go.RowKit
set_option maxRecDepth 100000
set_option linter.unusedSimpArgs false
theorem fW (T:List ay)(b:BefM)(l:List BefM):cU T (b::l)=gC (cU T l) b:=by
 unfold cU
 rw [List.reverse_cons,List.foldl_append]
 rfl
theorem LogI.at {cols:List (List Bool)}{T:List ay}{log:List BefM}(h:LogI cols T log.reverse):∀(d j:Nat),d+j=log.length→LogI cols (cU T (log.drop j)) (log.take j).reverse
 | 0,j,hj=>by
  rw [List.drop_of_length_le (by omega),List.take_of_length_le (by omega)]
  exact h
 | d+1,j,hj=>by
  have ih:=h.at d (j+1) (by omega)
  have hlt:j<log.length:=by omega
  have e:log.drop j=log[j]::log.drop (j+1):=List.drop_eq_getElem_cons hlt
  rw [e,fW]
  rw [List.take_add_one,List.getElem?_eq_getElem hlt,Option.toList_some,List.reverse_append]at ih
  cases ih with
  | cons _ _ t=>exact t
theorem LogI.step {cols:List (List Bool)}{T:List ay}{log:List BefM}(h:LogI cols T log.reverse){j:Nat}{b:BefM}(hb:log[j]?=some b) :
  ∃(i:Nat) (m:ay),b.table=(i:Int)∧(cU T (log.drop (j+1)))[i]?=some m∧am b.key=true ∧
   ((b.r = []∧cU T (log.drop j)=(cU T (log.drop (j+1))).set i (dx m b.key))∨(b.r≠[]∧aJ b.r=b.key∧(cF m b.r).length≤200∧cU T (log.drop j)=(cU T (log.drop (j+1))).set i (cF m b.r))):=by
 obtain⟨hlt,hbe⟩:=List.getElem?_eq_some_iff.1 hb
 have h1:=h.at (log.length-(j+1)) (j+1) (by omega)
 have h2:=h.at (log.length-j) j (by omega)
 have e:log.drop j=b::log.drop (j+1):=by rw [←hbe];exact List.drop_eq_getElem_cons hlt
 rw [e,fW]at h2 ⊢
 rw [List.take_add_one,hb,Option.toList_some,List.reverse_append]at h1
 generalize cU T (log.drop (j+1))=T' at *
 have hw2:=h2.well
 cases h1 with
 | cons hw hB _ =>
  obtain⟨i,c,ht,hc,hk,hr⟩:=hB
  have hi:i<T'.length:=by rw [hw.1];exact(List.getElem?_eq_some_iff.1 hc).1
  obtain⟨m,hm⟩:∃m,T'[i]?=some m:=⟨T'[i],List.getElem?_eq_getElem hi⟩
  refine⟨i,m,ht,hm,hk,?_⟩
  have hu:gC T' b=T'.set i (if b.r.isEmpty then dx m b.key else cF m b.r):=by
   unfold gC
   rw [ht,Int.toNat_natCast,List.getD_eq_getElem?_getD,hm];rfl
  rcases hr with hr|⟨hf,hfit,hkey⟩
  ·left
   refine⟨hr,?_⟩
   rw [hu,hr];rfl
  ·right
   have hne:b.r.isEmpty=false:=mR hf
   rw [hne]at hu
   refine⟨fun h0=>(by rw [h0]at hne;cases hne),hkey,?_,hu⟩
   rw [hu]at hw2
   exact(hw2.2 i c (cF m b.r) hc (by rw [List.getElem?_set_self hi];rfl)).2
section
variable {B w : World} {D : PH} {x o i j k : Nat} {X : TxM} {l : List HP} {m : ay}
theorem sw (h:TxIn B w D x o X l)(hl:X.log.length=j+1):∃(g lc:Nat) (en:BefE) (b:BefM),X.log[j]?=some b∧BefOk D en b∧w.cell? ⟨x,1,none⟩=some (.slice (some ⟨g,0,none⟩) (j+1) lc)∧j+1≤lc ∧
  (∀k v,en.cells[k]?=some v→w.cell? ⟨g,j*5+k,none⟩=some v)∧(∀q,w.frozen? ⟨x,q,none⟩=false)∧TxIn B (w.setCell ⟨x,1,none⟩ (.slice (some ⟨g,0,none⟩) j lc)) D x o { X with log:=X.log.take j } l:=by
 obtain⟨H,hH,hs⟩:=h
 obtain⟨-,c1,cf⟩:=cW hs
 have hN:H.es.length=j+1:=hH.log.len.trans hl
 obtain⟨en,hen⟩:∃en,H.es[j]?=some en:=⟨H.es[j]'(by omega),List.getElem?_eq_getElem _⟩
 obtain⟨b,hb,hok⟩:=hH.log.get hen
 obtain⟨lv,hlv⟩:∃v,H.lv=v:=⟨_,rfl⟩
 have hO:=hs.own 1 rfl
 rw [hlv,hN]at hO
 rw [hlv]at c1
 rcases hO.2.2 with ⟨_,h0⟩|⟨g,lc,cur,rfl,hg,hle,hc,hz,hx⟩
 ·omega
 have hrd:=hO.rd
 refine⟨g,lc,en,b,hb,hok,c1,hle,fun k v hv=>?_,cf,⟨⟨.slice (some ⟨g,0,none⟩) j lc,H.es.take j,H.cs⟩,⟨?_,hH.curs,hH.saves,hH.three,?_⟩,?_⟩⟩
 ·obtain⟨_,_,ao,cap,hv2,_,_,_,hcell⟩:=hrd
  cases hv2
  rcases hcell with h0|⟨g',og,hg',hcc⟩
  ·omega
  ·cases hg'
   have:=hcc (j*5+k) v (bH BefE.len H.es j en hen k v hv)
   rwa [Nat.zero_add]at this
 ·exact hH.log.take j
 ·show(X.log.take j).length≤10000
  have:=hH.small
  rw [List.length_take];omega
 ·have h1:Sat B D (w.setCell ⟨x,1,none⟩ (.slice (some ⟨g,0,none⟩) j lc)) (blk x (aO o (.slice (some ⟨g,0,none⟩) j lc) X.saves H.cs) tTx::aF dm 5 (.slice (some ⟨g,0,none⟩) (j+1) lc) (j+1) (H.es.flatMap BefE.cells)::orP D o ⟨X.cols,X.tabs⟩::l):=by
   rw [←gK o H.lv (.slice (some ⟨g,0,none⟩) j lc) X.saves H.cs]
   have:=Sat.set hs 1 (.slice (some ⟨g,0,none⟩) j lc)
   rw [hlv,hN]at this
   rw [hlv]
   exact this
  have h2:=(h1.swap.own_cut (m:=j) (c:=lc) (by omega) (by omega) (Nat.le_refl _)).swap
  have e1:(H.es.take j).length=j:=by rw [List.length_take];omega
  show Sat B D _ (blk x _ tTx::aF dm 5 (.slice (some ⟨g,0,none⟩) j lc) (H.es.take j).length ((H.es.take j).flatMap BefE.cells)::orP D o ⟨X.cols,X.tabs⟩::l)
  rw [e1,←eJ BefE.len]
  exact h2
theorem tx_tree (h:TxIn B w D x o X l)(hm:X.tabs[i]?=some m):∃t g og pc,w.cell? ⟨x,0,none⟩=some (.pointer (some ⟨o,0,none⟩))∧w.cell? ⟨o,1,none⟩=some (.slice (some ⟨g,og,none⟩) X.tabs.length pc)∧w.cell? ⟨g,og+i,none⟩=some (.pointer (some ⟨t,0,none⟩)) ∧
  (∀k:Val,am k=true→Calls Tryz.prog 91 #[.pointer (some ⟨t,0,none⟩),k.v] w.drew fun e w'=>∃b,e = .returned (.bool b)∧TxIn B w' D x o { X with tabs:=X.tabs.set i (dx m k) } l) ∧
  (∀(v:VT) (r:List Val),RowF D v.v r→am (aJ r)=true→(cF m r).length≤200→Calls Tryz.prog 92 #[.pointer (some ⟨t,0,none⟩),(aJ r).v,v.v] w.drew fun e w'=>∃b,e = .returned (.bool b)∧TxIn B w' D x o { X with tabs:=X.tabs.set i (cF m r) } l):=by
 obtain⟨H,hH,hs⟩:=h
 obtain⟨c0,_,_⟩:=cW hs
 obtain⟨y,hy,hs2⟩:=fS (ik hs)
 obtain⟨_,d1⟩:=dy hs2
 obtain⟨t,g,og,pc,ht,hpv,hpc⟩:=gI hy hm hs2
 rw [hpv]at d1
 refine⟨t,g,og,pc,c0,d1,hpc,fun k hk=>(tH k hy hm ht hk hs2.drew).mono ?_,fun v r hr hk hl=>(tq v r hy hm ht hr hk hl hs2.drew).mono ?_⟩
 ·rintro e w' ⟨b,rfl,hs3⟩
  exact⟨b,rfl,H,⟨hH.log,hH.curs,hH.saves,hH.three,hH.small⟩,fR (X:={ X with tabs:=X.tabs.set i (dx m k) }) hs3⟩
 ·rintro e w' ⟨b,rfl,hs3⟩
  exact⟨b,rfl,H,⟨hH.log,hH.curs,hH.saves,hH.three,hH.small⟩,fR (X:={ X with tabs:=X.tabs.set i (cF m r) }) hs3⟩
theorem kO (h:TxIn B w D x o X l):∃_:Value,w.cell? ⟨x,0,none⟩=some (.pointer (some ⟨o,0,none⟩))∧(∀k n,X.saves[k]?=some n→w.cell? ⟨x,2+k,none⟩=some (.int .i64 n))∧(∀q,w.frozen? ⟨x,q,none⟩=false) ∧
  ∀k n,k<4→TxIn B (w.setCell ⟨x,2+k,none⟩ (.int .i64 n)) D x o { X with saves:=X.saves.set k n } l:=by
 obtain⟨H,hH,hs⟩:=h
 obtain⟨c0,_,cf⟩:=cW hs
 have hb:=hs.blk 0 rfl
 refine⟨H.lv,c0,fun k n hn=>?_,cf,fun k n hk=>⟨H,⟨hH.log,hH.curs,by rw [List.length_set];exact hH.saves,hH.three,hH.small⟩,?_⟩⟩
 ·simp only [World.cell?,hb]
  exact ke _ _ _ _ hn
 ·show Sat B D _ (blk x (aO o H.lv (X.saves.set k n) H.cs) tTx::_)
  rw [←iK o H.lv X.saves H.cs (by rw [hH.saves];exact hk) n]
  exact Sat.set hs (2+k) (.int .i64 n)
end
end Go.Proofs.YtdobimafhbfkhaaGreat
