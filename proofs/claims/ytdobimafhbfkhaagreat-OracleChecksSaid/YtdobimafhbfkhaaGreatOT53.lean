/- The document's part, May of predicates (ratlineref03). (printed by genrm3.py) -/
import Derived.Test.YtdobimafhbfkhaaGreatOT49
set_option maxHeartbeats 64000000
namespace Go.Proofs.YtdobimafhbfkhaaGreat
open Go.ChangeShapes Go.WideShapes Go.ChangeAt Go.RowKit
set_option maxRecDepth 100000
set_option linter.unusedSimpArgs false
theorem sj {cv:Value}{c:List Bool}:∀(p:PredT) (x:PredE) (w:World),x.p=p→bu w cv c→PredsRd w (.slice x.la x.ln x.lc) x.subs →
  Calls Tryz.prog 45 #[.agg #[cv],.agg x.cells.toArray] w fun e w'=>e = .returned (.bool (p.nodes.all (ar c)))∧Kept (fun _=>False) w w':=by
 refine PredT.ind fun op col v w0 pl ih x w hx hc hat=>?_
 have hl:x.subs=pl:=by unfold PredE.p at hx;cases hx;rfl
 obtain⟨W1,hW1,hk1,hb1,hb2⟩:=nz w #[cv] x.cells.toArray aX tPr
 have hat1:=hat.kept hk1
 have hc1:=Rd.kept hc hk1 (fun _ _ h=>h)
 obtain⟨es,hrd,hsub,hes⟩:∃es:List PredE,Rd W1 9 (.slice x.la x.ln x.lc) es.length (es.flatMap PredE.cells)∧x.subs=es.map PredE.p∧∀e∈es,PredsRd W1 (.slice e.la e.ln e.lc) e.subs:=by
  generalize x.subs=xs at hat1
  cases hat1 with
  | mk _ es he hes=>exact⟨es,he,rfl,hes⟩
 obtain⟨_,_,ca,cc,rfl,_⟩:=id hc
 have wl:=CM (show(PredT.mk op col v w0 pl).nodes.all (ar c)=(ar c (.mk op col v w0 pl)&&es.all (fun e=>e.p.nodes.all (ar c))) by rw [iV,←hl,hsub,List.all_cons,List.flatMap_map,List.all_flatMap])
 obtain⟨_,_,ra,rc,hav,_⟩:=id hrd
 have hln:x.ln=es.length:=(Value.slice.inj hav).2.1
 have hml:=hrd.2.1
 unfold maxLen at hml
 obtain⟨N,hN⟩:∃N,es.length=N:=⟨_,rfl⟩
 rw [hln,hN]at hrd
 rw [hN]at hml
 have vY:=CM (show ∀(j:Nat) (e:PredE) (W:World),es[j]?=some e→Kept (fun _=>False) W1 W→Calls Tryz.prog 45 #[.agg #[.slice ca c.length cc],.agg e.cells.toArray] W fun r w'=>r = .returned (.bool (e.p.nodes.all (ar c)))∧Kept (fun _=>False) W w' from
  fun j e W he k=>ih e.p (by rw [←hl,hsub];exact List.mem_map_of_mem (List.mem_of_getElem? he)) e W rfl (Rd.kept hc1 k (fun _ _ h=>h)) ((hes e (List.mem_of_getElem? he)).kept k))
 have uw:=CM hrd
 have HN:=CM hN
 have vw:=CM (show pl.length=N by rw [←hl,hsub,List.length_map,hN])
 have vW:=CM (show x.ln=N by rw [hln,hN])
 have AG:=CM (show x.op=op∧x.col=col∧x.v=v∧x.w=w0 by unfold PredE.p at hx;cases hx;exact⟨rfl,rfl,rfl,rfl⟩)
 have uV:=CM hc1
 have ul:=CM hW1
 have uq:=CM hk1
 have um:=CM hb1
 have un:=CM hb2
 obtain⟨rr,hrr⟩:∃rr,rr=(PredT.mk op col v w0 pl).nodes.all (ar c):=⟨_,rfl⟩
 rw [←hrr]
 have HRR:=CM hrr
 clear ih hx hat hat1 hl hsub hes hrd hav hln hN hW1 hk1 hb1 hb2 hrr hc hc1
 go_enter Tryz.func45,Tryz.ntmps45
 go_upto_region 1 with fail
 rw [←ul.out]
 clear ul
 generalize w.heap.size+1=b2 at *
 generalize w.heap.size=b1 at *
 obtain⟨la,hla⟩:∃la,la=x.la:=⟨_,rfl⟩
 obtain⟨lc,hlc⟩:∃lc,lc=x.lc:=⟨_,rfl⟩
 have HB:=CM (show ∀W,Kept (fun _=>False) W1 W→W.cell? ⟨b2,0,none⟩=some (.int .i64 op)∧W.cell? ⟨b2,1,none⟩=some (.int .i64 col)∧W.cell? ⟨b2,2,none⟩=some (.bool v.t)∧W.cell? ⟨b2,3,none⟩=some (.int .i64 v.n)∧W.cell? ⟨b2,4,none⟩=some (.string v.s)∧W.cell? ⟨b2,5,none⟩=some (.bool w0.t)∧W.cell? ⟨b2,6,none⟩=some (.int .i64 w0.n)∧W.cell? ⟨b2,7,none⟩=some (.string w0.s)∧W.cell? ⟨b2,8,none⟩=some (.slice la N lc)∧W.cell? ⟨b1,0,none⟩=some (.slice ca c.length cc)from fun W k=>by
  obtain⟨h0,h1,h2,h3,h4,h5,h6,h7,h8⟩:=bh (aj k un.out)
  rw [vW.out,←hla,←hlc]at h8
  rw [AG.out.1]at h0
  rw [AG.out.2.1]at h1
  rw [AG.out.2.2.1]at h2 h3 h4
  rw [AG.out.2.2.2]at h5 h6 h7
  exact⟨h0,h1,h2,h3,h4,h5,h6,h7,h8,(aq (aj k um.out)).1⟩)
 rw [←hla,←hlc]at uw
 clear hla hlc AG vW um un
 go_wp2_with fail
 go_loopw [5] (fun i wr=>∃j:Nat,i = .int .i64 j∧j≤N∧(es.take j).all (fun e=>e.p.nodes.all (ar c))=true∧Kept (fun _=>False) W1 wr) (fun i _=>N-(intOf i).toNat)
 case atStart=>exact⟨0,rfl,by omega,rfl,Kept.refl _ _⟩
 case round =>
  obtain⟨j,rfl,hj,hyes,hk⟩:=hrel
  have HK:=CM hk
  have HY:=CM hyes
  obtain⟨x0,x1,x2,x3,x4,x5,x6,x7,x8,t0⟩:=HB.out wr hk
  clear hk hyes
  by_cases hlt:j<N
  ·have hii:(j:Int)<(N:Int):=by omega
   obtain⟨e,he⟩:∃e,es[j]?=some e:=⟨es[j]'(by rw [HN.out];exact hlt),List.getElem?_eq_getElem _⟩
   obtain⟨g,og,rfl,hrng⟩:=bK PredE.len (Rd.kept uw.out HK.out.drew (fun _ _ h=>h)) he HN.out
   have HL:=CM (dp (w:=wr.drew) hrng)
   have HC:=CM (vY.out j e wr.drew he HK.out.drew)
   have vk:=CM (show(es.take (j+1)).all (fun e=>e.p.nodes.all (ar c))=e.p.nodes.all (ar c) by rw [List.take_add_one,he,List.all_append,HY.out];simp)
   have x9:=CM (List.mem_of_getElem? he)
   clear he hrng
   go_upto_region 4 with fail
   cases hb:e.p.nodes.all (ar c)
   ·rw [hb]at HC
    have HF:=CM (show es.all (fun e=>e.p.nodes.all (ar c))=false from List.all_eq_false.2 ⟨e,x9.out,by rw [hb];simp⟩)
    clear hb
    refine af [(0,false,6),(1,false,6),(2,false,6),(3,false,6),(4,false,6),(5,false,6),(6,true,0),(7,false,999)] (by kernel_rfl) (by kernel_rfl) ?_
    iterate 6 (refine ae rfl rfl (fun K hK=>?_);(first|((refine cj _ _ rfl _ _ rfl _ HL.out ?_);go_simp)|go_simp);refine hK _ ?_;clear hK K)
    refine ag rfl ?_
    refine au rfl (fun K hK=>?_)
    go_simp
    refine HC.out.mono ?_
    rintro e4 w4 ⟨rfl,hk4⟩
    have HK4:=CM (HK.out.drew.trans hk4 (fun _ h=>h.elim))
    clear hk4 HC HL x0 x1 x2 x3 x4 x5 x6 x7 x8 t0
    refine hK _ _ ?_
    clear hK K
    refine wpList_nil ?_
    refine And.intro ?_ ?_
    ·go_simp
    refine ae rfl rfl (fun K hK=>?_);(first|((refine cj _ _ rfl _ _ rfl _ HL.out ?_);go_simp)|go_simp);refine hK _ ?_;clear hK K
    refine ah ?_
    go_wp2_with fail
    go_ret
    exact⟨by rw [HRR.out,wl.out,HF.out];simp,uq.out.trans HK4.out (fun _ h=>h.elim)⟩
   ·rw [hb]at HC vk
    clear hb
    refine af [(0,false,6),(1,false,6),(2,false,6),(3,false,6),(4,false,6),(5,false,6),(6,true,0),(7,false,999)] (by kernel_rfl) (by kernel_rfl) ?_
    iterate 6 (refine ae rfl rfl (fun K hK=>?_);(first|((refine cj _ _ rfl _ _ rfl _ HL.out ?_);go_simp)|go_simp);refine hK _ ?_;clear hK K)
    refine ag rfl ?_
    refine au rfl (fun K hK=>?_)
    go_simp
    refine HC.out.mono ?_
    rintro e4 w4 ⟨rfl,hk4⟩
    have HK4:=CM (HK.out.drew.trans hk4 (fun _ h=>h.elim))
    clear hk4 HC HL x0 x1 x2 x3 x4 x5 x6 x7 x8 t0
    refine hK _ _ ?_
    clear hK K
    refine wpList_nil ?_
    refine And.intro ?_ ?_
    ·go_simp
    refine ae rfl rfl (fun K hK=>?_);(first|((refine cj _ _ rfl _ _ rfl _ HL.out ?_);go_simp)|go_simp);refine hK _ ?_;clear hK K
    refine ah ?_
    go_wp2_with fail
    go_roundw
    case rel=>exact⟨j+1,by go_num,by omega,vk.out,HK4.out⟩
    case measure=>simp [intOf];omega
  ·have hii:¬((j:Int)<(N:Int)):=by omega
   have uE:=CM (show rr=ar c (.mk op col v w0 pl) by rw [HRR.out,wl.out,show es.all (fun e=>e.p.nodes.all (ar c))=true by have:=HY.out;rwa [List.take_of_length_le (by rw [HN.out];omega)]at this];simp)
   have vu:=CM (uq.out.trans HK.out (fun _ h=>h.elim))
   clear HRR wl vY uw
   go_upto_region 7 with fail
   by_cases hop:1≤op∧op≤12
   ·have h12:op=1∨op=2∨op=3∨op=4∨op=5∨op=6∨op=7∨op=8∨op=9∨op=10∨op=11∨op=12:=by omega
    clear hop
    rcases h12 with rfl|rfl|rfl|rfl|rfl|rfl|rfl|rfl|rfl|rfl|rfl|rfl
    ·skip
     by_cases h0:N=0
     ·have hp:pl = []:=List.length_eq_zero_iff.1 (by rw [vw.out];exact h0)
      have hN1:((N:Int) == 0)=true:=by simp [h0]
      have hN2:¬(N:Int) > 0:=by omega
      have HO:=CM (show ar c (.mk 1 col v w0 pl)=true by unfold ar;simp only [PredT.op,PredT.col,PredT.v,PredT.w,PredT.l];simp [hp])
      go_wp2_with fail
      go_ret
      exact⟨by rw [uE.out,HO.out];rfl,vu.out⟩
     ·have hp:pl.isEmpty=false:=by cases hq:pl with|nil=>exact absurd (by have:=vw.out;rw [hq]at this;exact this.symm) h0|cons _ _=>rfl
      have hN1:((N:Int) == 0)=false:=by simp [h0]
      have hN2:(N:Int) > 0:=by omega
      have HO:=CM (show ar c (.mk 1 col v w0 pl)=false by unfold ar;simp only [PredT.op,PredT.col,PredT.v,PredT.w,PredT.l];simp [hp])
      go_wp2_with fail
      go_ret
      exact⟨by rw [uE.out,HO.out];rfl,vu.out⟩
    ·skip
     by_cases h0:N=0
     ·have hp:pl = []:=List.length_eq_zero_iff.1 (by rw [vw.out];exact h0)
      have hN1:((N:Int) == 0)=true:=by simp [h0]
      have hN2:¬(N:Int) > 0:=by omega
      have HO:=CM (show ar c (.mk 2 col v w0 pl)=true by unfold ar;simp only [PredT.op,PredT.col,PredT.v,PredT.w,PredT.l];simp [hp])
      go_wp2_with fail
      go_ret
      exact⟨by rw [uE.out,HO.out];rfl,vu.out⟩
     ·have hp:pl.isEmpty=false:=by cases hq:pl with|nil=>exact absurd (by have:=vw.out;rw [hq]at this;exact this.symm) h0|cons _ _=>rfl
      have hN1:((N:Int) == 0)=false:=by simp [h0]
      have hN2:(N:Int) > 0:=by omega
      have HO:=CM (show ar c (.mk 2 col v w0 pl)=false by unfold ar;simp only [PredT.op,PredT.col,PredT.v,PredT.w,PredT.l];simp [hp])
      go_wp2_with fail
      go_ret
      exact⟨by rw [uE.out,HO.out];rfl,vu.out⟩
    ·skip
     by_cases h0:N=0
     ·have hp:pl = []:=List.length_eq_zero_iff.1 (by rw [vw.out];exact h0)
      have hN1:((N:Int) == 0)=true:=by simp [h0]
      have hN2:¬(N:Int) > 0:=by omega
      have HO:=CM (show ar c (.mk 3 col v w0 pl)=bP c col v by unfold ar;simp only [PredT.op,PredT.col,PredT.v,PredT.w,PredT.l];simp [hp])
      have uT:=CM (eE col v (Rd.kept uV.out HK.out (fun _ _ h=>h)))
      generalize bP c col v=cb at *
      go_wp2_with (go_at_call 65;refine uT.out.mono ?_;rintro e5 w5 ⟨rfl,hk5⟩;have uG:=CM (vu.out.trans hk5 (fun _ h=>h.elim));clear hk5 uT x0 x1 x2 x3 x4 x5 x6 x7 x8 t0)
      go_ret
      exact⟨by rw [uE.out,HO.out];rfl,uG.out⟩
     ·have hp:pl.isEmpty=false:=by cases hq:pl with|nil=>exact absurd (by have:=vw.out;rw [hq]at this;exact this.symm) h0|cons _ _=>rfl
      have hN1:((N:Int) == 0)=false:=by simp [h0]
      have hN2:(N:Int) > 0:=by omega
      have HO:=CM (show ar c (.mk 3 col v w0 pl)=false by unfold ar;simp only [PredT.op,PredT.col,PredT.v,PredT.w,PredT.l];simp [hp])
      go_wp2_with fail
      go_ret
      exact⟨by rw [uE.out,HO.out];rfl,vu.out⟩
    ·skip
     by_cases h0:N=0
     ·have hp:pl = []:=List.length_eq_zero_iff.1 (by rw [vw.out];exact h0)
      have hN1:((N:Int) == 0)=true:=by simp [h0]
      have hN2:¬(N:Int) > 0:=by omega
      have HO:=CM (show ar c (.mk 4 col v w0 pl)=bP c col v by unfold ar;simp only [PredT.op,PredT.col,PredT.v,PredT.w,PredT.l];simp [hp])
      have uT:=CM (eE col v (Rd.kept uV.out HK.out (fun _ _ h=>h)))
      generalize bP c col v=cb at *
      go_wp2_with (go_at_call 65;refine uT.out.mono ?_;rintro e5 w5 ⟨rfl,hk5⟩;have uG:=CM (vu.out.trans hk5 (fun _ h=>h.elim));clear hk5 uT x0 x1 x2 x3 x4 x5 x6 x7 x8 t0)
      go_ret
      exact⟨by rw [uE.out,HO.out];rfl,uG.out⟩
     ·have hp:pl.isEmpty=false:=by cases hq:pl with|nil=>exact absurd (by have:=vw.out;rw [hq]at this;exact this.symm) h0|cons _ _=>rfl
      have hN1:((N:Int) == 0)=false:=by simp [h0]
      have hN2:(N:Int) > 0:=by omega
      have HO:=CM (show ar c (.mk 4 col v w0 pl)=false by unfold ar;simp only [PredT.op,PredT.col,PredT.v,PredT.w,PredT.l];simp [hp])
      go_wp2_with fail
      go_ret
      exact⟨by rw [uE.out,HO.out];rfl,vu.out⟩
    ·skip
     by_cases h0:N=0
     ·have hp:pl = []:=List.length_eq_zero_iff.1 (by rw [vw.out];exact h0)
      have hN1:((N:Int) == 0)=true:=by simp [h0]
      have hN2:¬(N:Int) > 0:=by omega
      have HO:=CM (show ar c (.mk 5 col v w0 pl)=bP c col v by unfold ar;simp only [PredT.op,PredT.col,PredT.v,PredT.w,PredT.l];simp [hp])
      have uT:=CM (eE col v (Rd.kept uV.out HK.out (fun _ _ h=>h)))
      generalize bP c col v=cb at *
      go_wp2_with (go_at_call 65;refine uT.out.mono ?_;rintro e5 w5 ⟨rfl,hk5⟩;have uG:=CM (vu.out.trans hk5 (fun _ h=>h.elim));clear hk5 uT x0 x1 x2 x3 x4 x5 x6 x7 x8 t0)
      go_ret
      exact⟨by rw [uE.out,HO.out];rfl,uG.out⟩
     ·have hp:pl.isEmpty=false:=by cases hq:pl with|nil=>exact absurd (by have:=vw.out;rw [hq]at this;exact this.symm) h0|cons _ _=>rfl
      have hN1:((N:Int) == 0)=false:=by simp [h0]
      have hN2:(N:Int) > 0:=by omega
      have HO:=CM (show ar c (.mk 5 col v w0 pl)=false by unfold ar;simp only [PredT.op,PredT.col,PredT.v,PredT.w,PredT.l];simp [hp])
      go_wp2_with fail
      go_ret
      exact⟨by rw [uE.out,HO.out];rfl,vu.out⟩
    ·skip
     by_cases h0:N=0
     ·have hp:pl = []:=List.length_eq_zero_iff.1 (by rw [vw.out];exact h0)
      have hN1:((N:Int) == 0)=true:=by simp [h0]
      have hN2:¬(N:Int) > 0:=by omega
      have HO:=CM (show ar c (.mk 6 col v w0 pl)=bP c col v by unfold ar;simp only [PredT.op,PredT.col,PredT.v,PredT.w,PredT.l];simp [hp])
      have uT:=CM (eE col v (Rd.kept uV.out HK.out (fun _ _ h=>h)))
      generalize bP c col v=cb at *
      go_wp2_with (go_at_call 65;refine uT.out.mono ?_;rintro e5 w5 ⟨rfl,hk5⟩;have uG:=CM (vu.out.trans hk5 (fun _ h=>h.elim));clear hk5 uT x0 x1 x2 x3 x4 x5 x6 x7 x8 t0)
      go_ret
      exact⟨by rw [uE.out,HO.out];rfl,uG.out⟩
     ·have hp:pl.isEmpty=false:=by cases hq:pl with|nil=>exact absurd (by have:=vw.out;rw [hq]at this;exact this.symm) h0|cons _ _=>rfl
      have hN1:((N:Int) == 0)=false:=by simp [h0]
      have hN2:(N:Int) > 0:=by omega
      have HO:=CM (show ar c (.mk 6 col v w0 pl)=false by unfold ar;simp only [PredT.op,PredT.col,PredT.v,PredT.w,PredT.l];simp [hp])
      go_wp2_with fail
      go_ret
      exact⟨by rw [uE.out,HO.out];rfl,vu.out⟩
    ·skip
     by_cases h0:N=0
     ·have hp:pl = []:=List.length_eq_zero_iff.1 (by rw [vw.out];exact h0)
      have hN1:((N:Int) == 0)=true:=by simp [h0]
      have hN2:¬(N:Int) > 0:=by omega
      have HO:=CM (show ar c (.mk 7 col v w0 pl)=bP c col v by unfold ar;simp only [PredT.op,PredT.col,PredT.v,PredT.w,PredT.l];simp [hp])
      have uT:=CM (eE col v (Rd.kept uV.out HK.out (fun _ _ h=>h)))
      generalize bP c col v=cb at *
      go_wp2_with (go_at_call 65;refine uT.out.mono ?_;rintro e5 w5 ⟨rfl,hk5⟩;have uG:=CM (vu.out.trans hk5 (fun _ h=>h.elim));clear hk5 uT x0 x1 x2 x3 x4 x5 x6 x7 x8 t0)
      go_ret
      exact⟨by rw [uE.out,HO.out];rfl,uG.out⟩
     ·have hp:pl.isEmpty=false:=by cases hq:pl with|nil=>exact absurd (by have:=vw.out;rw [hq]at this;exact this.symm) h0|cons _ _=>rfl
      have hN1:((N:Int) == 0)=false:=by simp [h0]
      have hN2:(N:Int) > 0:=by omega
      have HO:=CM (show ar c (.mk 7 col v w0 pl)=false by unfold ar;simp only [PredT.op,PredT.col,PredT.v,PredT.w,PredT.l];simp [hp])
      go_wp2_with fail
      go_ret
      exact⟨by rw [uE.out,HO.out];rfl,vu.out⟩
    ·skip
     by_cases h0:N=0
     ·have hp:pl = []:=List.length_eq_zero_iff.1 (by rw [vw.out];exact h0)
      have hN1:((N:Int) == 0)=true:=by simp [h0]
      have hN2:¬(N:Int) > 0:=by omega
      have HO:=CM (show ar c (.mk 8 col v w0 pl)=bP c col v by unfold ar;simp only [PredT.op,PredT.col,PredT.v,PredT.w,PredT.l];simp [hp])
      have uT:=CM (eE col v (Rd.kept uV.out HK.out (fun _ _ h=>h)))
      generalize bP c col v=cb at *
      go_wp2_with (go_at_call 65;refine uT.out.mono ?_;rintro e5 w5 ⟨rfl,hk5⟩;have uG:=CM (vu.out.trans hk5 (fun _ h=>h.elim));clear hk5 uT x0 x1 x2 x3 x4 x5 x6 x7 x8 t0)
      go_ret
      exact⟨by rw [uE.out,HO.out];rfl,uG.out⟩
     ·have hp:pl.isEmpty=false:=by cases hq:pl with|nil=>exact absurd (by have:=vw.out;rw [hq]at this;exact this.symm) h0|cons _ _=>rfl
      have hN1:((N:Int) == 0)=false:=by simp [h0]
      have hN2:(N:Int) > 0:=by omega
      have HO:=CM (show ar c (.mk 8 col v w0 pl)=false by unfold ar;simp only [PredT.op,PredT.col,PredT.v,PredT.w,PredT.l];simp [hp])
      go_wp2_with fail
      go_ret
      exact⟨by rw [uE.out,HO.out];rfl,vu.out⟩
    ·skip
     by_cases h0:N=0
     ·have hp:pl = []:=List.length_eq_zero_iff.1 (by rw [vw.out];exact h0)
      have hN1:((N:Int) == 0)=true:=by simp [h0]
      have hN2:¬(N:Int) > 0:=by omega
      cases hv:bP c col v
      ·have HV:=CM hv
       have HO:=CM (show ar c (.mk 9 col v w0 pl)=false by unfold ar;simp only [PredT.op,PredT.col,PredT.v,PredT.w,PredT.l];simp [hv])
       have uT:=CM (eE col v (Rd.kept uV.out HK.out (fun _ _ h=>h)))
       rw [HV.out]at uT
       clear hv
       go_wp2_with (go_at_call 65;refine uT.out.mono ?_;rintro e5 w5 ⟨rfl,hk5⟩;have uG:=CM (vu.out.trans hk5 (fun _ h=>h.elim));clear hk5 uT x0 x1 x2 x3 x4 x5 x6 x7 x8 t0)
       go_ret
       exact⟨by rw [uE.out,HO.out];rfl,uG.out⟩
      ·have HV:=CM hv
       have HO:=CM (show ar c (.mk 9 col v w0 pl)=bP c col w0 by unfold ar;simp only [PredT.op,PredT.col,PredT.v,PredT.w,PredT.l];simp [hp,hv])
       have uT:=CM (eE col v (Rd.kept uV.out HK.out (fun _ _ h=>h)))
       rw [HV.out]at uT
       go_wp2_with (first|(go_at_call 65;refine uT.out.mono ?_;rintro e5 w5 ⟨rfl,hk5⟩;have uG:=CM (vu.out.trans hk5 (fun _ h=>h.elim));have vh:=CM (HK.out.trans hk5 (fun _ h=>h.elim));have zN:=CM (eE col w0 (Rd.kept uV.out vh.out (fun _ _ h=>h)));clear hk5 uT x0 x1 x2 x3 x4 x5 x6 x7 x8 t0;obtain⟨x0,x1,x2,x3,x4,x5,x6,x7,x8,t0⟩:=HB.out w5 vh.out)|(go_at_call 65;refine zN.out.mono ?_;rintro e6 w6 ⟨rfl,hk6⟩;have AO:=CM (uG.out.trans hk6 (fun _ h=>h.elim));clear hk6 zN x0 x1 x2 x3 x4 x5 x6 x7 x8 t0))
       go_ret
       exact⟨by rw [uE.out,HO.out];rfl,AO.out⟩
     ·have hp:pl.isEmpty=false:=by cases hq:pl with|nil=>exact absurd (by have:=vw.out;rw [hq]at this;exact this.symm) h0|cons _ _=>rfl
      have hN1:((N:Int) == 0)=false:=by simp [h0]
      have hN2:(N:Int) > 0:=by omega
      have HO:=CM (show ar c (.mk 9 col v w0 pl)=false by unfold ar;simp only [PredT.op,PredT.col,PredT.v,PredT.w,PredT.l];simp [hp])
      go_wp2_with fail
      go_ret
      exact⟨by rw [uE.out,HO.out];rfl,vu.out⟩
    ·skip
     by_cases h0:N=1
     ·have hN1:((N:Int) == 1)=true:=by simp [h0]
      have HO:=CM (show ar c (.mk 10 col v w0 pl)=true by unfold ar;simp only [PredT.op,PredT.col,PredT.v,PredT.w,PredT.l];simp [vw.out,h0])
      go_wp2_with fail
      go_ret
      exact⟨by rw [uE.out,HO.out];rfl,vu.out⟩
     ·have hN1:((N:Int) == 1)=false:=by simp;omega
      have HO:=CM (show ar c (.mk 10 col v w0 pl)=false by unfold ar;simp only [PredT.op,PredT.col,PredT.v,PredT.w,PredT.l];simp [vw.out,h0])
      go_wp2_with fail
      go_ret
      exact⟨by rw [uE.out,HO.out];rfl,vu.out⟩
    ·skip
     by_cases h0:N=0
     ·have hp:pl = []:=List.length_eq_zero_iff.1 (by rw [vw.out];exact h0)
      have hN1:((N:Int) == 0)=true:=by simp [h0]
      have hN2:¬(N:Int) > 0:=by omega
      have HO:=CM (show ar c (.mk 11 col v w0 pl)=false by unfold ar;simp only [PredT.op,PredT.col,PredT.v,PredT.w,PredT.l];simp [hp])
      go_wp2_with fail
      go_ret
      exact⟨by rw [uE.out,HO.out];rfl,vu.out⟩
     ·have hp:pl.isEmpty=false:=by cases hq:pl with|nil=>exact absurd (by have:=vw.out;rw [hq]at this;exact this.symm) h0|cons _ _=>rfl
      have hN1:((N:Int) == 0)=false:=by simp [h0]
      have hN2:(N:Int) > 0:=by omega
      have HO:=CM (show ar c (.mk 11 col v w0 pl)=true by unfold ar;simp only [PredT.op,PredT.col,PredT.v,PredT.w,PredT.l];simp [vw.out];omega)
      go_wp2_with fail
      go_ret
      exact⟨by rw [uE.out,HO.out];exact congrArg (fun b=>Ending.returned (Value.bool b)) (decide_eq_true (by omega)),vu.out⟩
    ·skip
     by_cases h0:N=0
     ·have hp:pl = []:=List.length_eq_zero_iff.1 (by rw [vw.out];exact h0)
      have hN1:((N:Int) == 0)=true:=by simp [h0]
      have hN2:¬(N:Int) > 0:=by omega
      have HO:=CM (show ar c (.mk 12 col v w0 pl)=false by unfold ar;simp only [PredT.op,PredT.col,PredT.v,PredT.w,PredT.l];simp [hp])
      go_wp2_with fail
      go_ret
      exact⟨by rw [uE.out,HO.out];rfl,vu.out⟩
     ·have hp:pl.isEmpty=false:=by cases hq:pl with|nil=>exact absurd (by have:=vw.out;rw [hq]at this;exact this.symm) h0|cons _ _=>rfl
      have hN1:((N:Int) == 0)=false:=by simp [h0]
      have hN2:(N:Int) > 0:=by omega
      have HO:=CM (show ar c (.mk 12 col v w0 pl)=true by unfold ar;simp only [PredT.op,PredT.col,PredT.v,PredT.w,PredT.l];simp [vw.out];omega)
      go_wp2_with fail
      go_ret
      exact⟨by rw [uE.out,HO.out];exact congrArg (fun b=>Ending.returned (Value.bool b)) (decide_eq_true (by omega)),vu.out⟩
   ·have n1:¬op=1:=by omega
    have n2:¬op=2:=by omega
    have n3:¬op=3:=by omega
    have n4:¬op=4:=by omega
    have n5:¬op=5:=by omega
    have n6:¬op=6:=by omega
    have n7:¬op=7:=by omega
    have n8:¬op=8:=by omega
    have n9:¬op=9:=by omega
    have n10:¬op=10:=by omega
    have n11:¬op=11:=by omega
    have n12:¬op=12:=by omega
    have HO:=CM (show ar c (.mk op col v w0 pl)=false by unfold ar;rw [if_neg (show ¬((PredT.mk op col v w0 pl).op=1∨(PredT.mk op col v w0 pl).op=2) by show ¬(op=1∨op=2);omega),if_neg (show ¬(3≤(PredT.mk op col v w0 pl).op∧(PredT.mk op col v w0 pl).op≤8) by show ¬(3≤op∧op≤8);omega),if_neg (show ¬((PredT.mk op col v w0 pl).op=9) by show ¬(op=9);omega),if_neg (show ¬((PredT.mk op col v w0 pl).op=10) by show ¬(op=10);omega),if_neg (show ¬((PredT.mk op col v w0 pl).op=11∨(PredT.mk op col v w0 pl).op=12) by show ¬(op=11∨op=12);omega)])
    go_wp2_with fail
    go_ret
    exact⟨by rw [uE.out,HO.out];rfl,vu.out⟩
theorem r8 {w:World}{cv:Value}{c:List Bool}(x:PredE)(hc:bu w cv c)(hm:cu c=true)(hat:PredsRd w (.slice x.la x.ln x.lc) x.subs)(hn:x.p.nodes.length≤1000000) :
  Calls Tryz.prog 29 #[.agg #[cv],.agg x.cells.toArray] w fun e w'=>e = .returned (.bool (cB c x.p))∧Kept (fun _=>False) w w':=by
 obtain⟨W1,hW1,hk1,hb1,hb2⟩:=nz w #[cv] x.cells.toArray aX tPr
 have hc1:=Rd.kept hc hk1 (fun _ _ h=>h)
 have vV:=CM (mT hc1)
 rw [show lD c=true from hm]at vV
 have uV:=CM hc1
 have yL:=CM (hat.kept hk1)
 have ul:=CM hW1
 have uq:=CM hk1
 have um:=CM hb1
 have un:=CM hb2
 have we:=CM hn
 obtain⟨_,_,ca,cc,rfl,_⟩:=id hc
 obtain⟨rr,hrr⟩:∃rr,rr=cB c x.p:=⟨_,rfl⟩
 rw [←hrr]
 have HRR:=CM hrr
 clear hc hc1 hat hn hW1 hk1 hb1 hb2 hrr hm
 go_enter Tryz.func29,Tryz.ntmps29
 go_upto_region 1 with fail
 rw [←ul.out]
 clear ul
 generalize w.heap.size+1=b2 at *
 generalize w.heap.size=b1 at *
 obtain⟨t0,tf⟩:=aq um.out
 go_upto_region 2 with (go_at_call 38;refine vV.out.mono ?_;rintro e1 w1 ⟨rfl,hk1⟩;have vh:=CM hk1;clear hk1 vV t0 tf)
 obtain⟨t0,tf⟩:=aq (aj vh.out um.out)
 have HL:=CM (dp (aA (aj vh.out un.out)))
 have uH:=CM (lj x.p x w1 rfl we.out (yL.out.kept vh.out))
 obtain⟨N,hN⟩:∃N,x.p.nodes.length=N:=⟨_,rfl⟩
 rw [hN]at uH
 have HN:=CM hN
 clear hN
 by_cases h15:N≤15
 ·have HO:=CM (show cB c x.p=x.p.nodes.all (ar c) by unfold cB;rw [HN.out,decide_eq_true h15];simp)
  have h1:(N:Int)≤15:=by omega
  go_wp2_with (first
   | (refine fU rfl _ _ rfl _ _ rfl _ HL.out ?_)
   | (go_at_call 30;refine uH.out.mono ?_;rintro e2 w2 ⟨rfl,hk2⟩;have ux:=CM (vh.out.trans hk2 (fun _ h=>h.elim));clear hk2 uH HL t0 tf;obtain⟨t0,tf⟩:=aq (aj ux.out um.out);have HL:=CM (dp (aA (aj ux.out un.out)));have Cb:=CM (sj x.p x w2 rfl (Rd.kept uV.out ux.out (fun _ _ h=>h)) (yL.out.kept ux.out)))
   | (go_at_call 45;refine Cb.out.mono ?_;rintro e3 w3 ⟨rfl,hk3⟩;have vI:=CM (ux.out.trans hk3 (fun _ h=>h.elim));clear hk3 Cb HL t0 tf))
  go_ret
  exact⟨by rw [HRR.out,HO.out];rfl,uq.out.trans vI.out (fun _ h=>h.elim)⟩
 ·have HO:=CM (show cB c x.p=false by unfold cB;rw [HN.out,decide_eq_false h15];simp)
  have h1:¬(N:Int)≤15:=by omega
  go_wp2_with (first
   | (refine fU rfl _ _ rfl _ _ rfl _ HL.out ?_)
   | (go_at_call 30;refine uH.out.mono ?_;rintro e2 w2 ⟨rfl,hk2⟩;have ux:=CM (vh.out.trans hk2 (fun _ h=>h.elim));clear hk2 uH HL t0 tf))
  go_ret
  exact⟨by rw [HRR.out,HO.out];rfl,uq.out.trans ux.out (fun _ h=>h.elim)⟩
end Go.Proofs.YtdobimafhbfkhaaGreat
