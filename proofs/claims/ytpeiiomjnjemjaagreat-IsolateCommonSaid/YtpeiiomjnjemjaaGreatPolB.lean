/- The walks of package unipoly, second part: make of a row of integers, Of, transform (with Normal), Normal, Height. -/
import Derived.Test.YtpeiiomjnjemjaaGreatIntD
namespace Go.Proofs.YtpeiiomjnjemjaaGreat
open Go.RowKit
def plen:List Int->Nat
 | []=>0
 | d :: ds=>if plen ds=0 then (if d=0 then 0 else 1) else plen ds+1
theorem plen_cons_zero {d:Int} {ds:List Int} (h:plen ds=0) (h0:d=0):plen (d :: ds)=0:=by simp[plen,h,h0]
theorem plen_cons_one {d:Int} {ds:List Int} (h:plen ds=0) (h0:d≠0):plen (d :: ds)=1:=by simp[plen,h,h0]
theorem plen_cons_succ {d:Int} {ds:List Int} (h:plen ds≠0):plen (d :: ds)=plen ds+1:=by simp[plen,h]
theorem plen_le (ds:List Int):plen ds<=ds.length:=by
 induction ds with
 | nil=>simp[plen]
 | cons d ds ih =>
   rw[List.length_cons]
   by_cases h:plen ds=0
   ·by_cases h0:d=0
    ·rw[plen_cons_zero h h0];omega
    ·rw[plen_cons_one h h0];omega
   ·rw[plen_cons_succ h];omega
theorem plen_pred (ds:List Int):∀ k,plen ds<=k+1->ds.getD k 0=0->plen ds<=k:=by
 induction ds with
 | nil=>intro k _ _;simp[plen]
 | cons d ds ih =>
   intro k h h0
   cases k with
   | zero =>
     have h0:d=0:=by simpa using h0
     by_cases h1:plen ds=0
     ·rw[plen_cons_zero h1 h0];omega
     ·rw[plen_cons_succ h1] at h;omega
   | succ k =>
     have:=ih k
     rw[List.getD_cons_succ] at h0
     by_cases h1:plen ds=0
     ·by_cases h2:d=0
      ·rw[plen_cons_zero h1 h2];omega
      ·rw[plen_cons_one h1 h2];omega
     ·rw[plen_cons_succ h1] at h ⊢
      have:=this (by omega) h0
      omega
theorem plen_eq (ds:List Int):∀ k,plen ds<=k+1->ds.getD k 0≠0->plen ds=k+1:=by
 induction ds with
 | nil=>intro k _ h;simp at h
 | cons d ds ih =>
   intro k h h0
   cases k with
   | zero =>
     have h0:d≠0:=by simpa using h0
     by_cases h1:plen ds=0
     ·rw[plen_cons_one h1 h0]
     ·rw[plen_cons_succ h1] at h;omega
   | succ k =>
     rw[List.getD_cons_succ] at h0
     have h1:plen ds=k+1:=by
      by_cases h1:plen ds=0
      ·exact ih k (by omega) h0
      ·rw[plen_cons_succ h1] at h;exact ih k (by omega) h0
     rw[plen_cons_succ (by omega),h1]
def ptrim (p:List Int):List Int:=p.take (plen p)
theorem ptrim_length (p:List Int):(ptrim p).length=plen p:=by
 have:=plen_le p
 simp[ptrim,List.length_take];omega
theorem plen_ptrim (p:List Int):plen (ptrim p)=plen p:=by
 unfold ptrim
 induction p with
 | nil=>rfl
 | cons d ds ih =>
   by_cases h1:plen ds=0
   ·by_cases h2:d=0
    ·rw[plen_cons_zero h1 h2];rfl
    ·rw[plen_cons_one h1 h2];simp[plen,h2]
   ·rw[plen_cons_succ h1,List.take_succ_cons,plen_cons_succ (by rw[ih];exact h1),ih]
theorem ptrim_ptrim (p:List Int):ptrim (ptrim p)=ptrim p:=by
 have h:=plen_ptrim p
 have h2:=ptrim_length p
 rw[ptrim,h,List.take_of_length_le (by omega)]
def SmP (p:List Int):Prop:=∀ c∈p,SmI c
theorem SmP.getD {p:List Int} (h:SmP p) (k:Nat):SmI (p.getD k 0):=by
 rw[List.getD_eq_getElem?_getD]
 cases e:p[k]? with
 | none =>
   show dlen 0<=_
   rw[dlen_zero];omega
 | some x=>exact h x (List.mem_of_getElem? e)
theorem SmP.take {p:List Int} (h:SmP p) (k:Nat):SmP (p.take k):=fun c hc=>h c (List.mem_of_mem_take hc)
theorem SmP.ptrim {p:List Int} (h:SmP p):SmP (ptrim p):=h.take _
abbrev IntPred:Type:=World->Bool->Option Addr->Nat->Nat->Int->Prop
structure IK (I:IntPred):Prop where
 at_:∀ {w neg A l c z},I w neg A l c z->IntAt w neg A l c z
 below:∀ {w w' neg A l c z},I w neg A l c z->Below w.heap.size w w'->I w' neg A l c z
theorem ikAt:IK IntAt:=⟨fun h=>h,fun h hb=>h.below hb⟩
theorem ikN:IK IntN:=⟨fun h=>h.at_,fun h hb=>h.below hb⟩
structure PolyP (I:IntPred) (w:World) (A:Option Addr) (len cap:Nat) (p:List Int):Prop where
 length:p.length=len
 cap:len<=cap
 elems:len=0∨∃ b off,A=some ⟨b,off,none⟩/\b<w.heap.size/\∀ j,j<len->∃ neg Aj lj cj,w.cell? ⟨b,off+j*2,none⟩=some (.bool neg)/\w.cell? ⟨b,off+j*2+1,none⟩=some (.slice Aj lj cj)/\I w neg Aj lj cj (p.getD j 0)
abbrev PolyAt:=PolyP IntAt
abbrev PolyN:=PolyP IntN
section
variable {I:IntPred} {w w':World} {A:Option Addr} {len cap:Nat} {p:List Int}
theorem PolyP.below (hI:IK I) (h:PolyP I w A len cap p) (hb:Below w.heap.size w w'):PolyP I w' A len cap p:=by
 refine ⟨h.length,h.cap,?_⟩
 rcases h.elems with h0 | ⟨b,off,hA,hlt,hc⟩
 ·exact .inl h0
 ·refine .inr ⟨b,off,hA,Nat.lt_of_lt_of_le hlt hb.size,fun j hj=>?_⟩
  obtain ⟨neg,Aj,lj,cj,h1,h2,h3⟩:=hc j hj
  exact ⟨neg,Aj,lj,cj,(hb.cell (p:=⟨b,off+j*2,none⟩) hlt).trans h1,(hb.cell (p:=⟨b,off+j*2+1,none⟩) hlt).trans h2,hI.below h3 hb⟩
theorem PolyP.at_ (hI:IK I) (h:PolyP I w A len cap p):PolyAt w A len cap p:=by
 refine ⟨h.length,h.cap,?_⟩
 rcases h.elems with h0 | ⟨b,off,hA,hlt,hc⟩
 ·exact .inl h0
 ·refine .inr ⟨b,off,hA,hlt,fun j hj=>?_⟩
  obtain ⟨neg,Aj,lj,cj,h1,h2,h3⟩:=hc j hj
  exact ⟨neg,Aj,lj,cj,h1,h2,hI.at_ h3⟩
theorem PolyP.nil (I:IntPred) (w:World) (A:Option Addr) (cap:Nat):PolyP I w A 0 cap []:=⟨rfl,Nat.zero_le _,.inl rfl⟩
theorem PolyP.get (h:PolyP I w A len cap p) (hl:0<len):∃ b off,A=some ⟨b,off,none⟩/\b<w.heap.size/\∀ j,j<len->∃ neg Aj lj cj,w.cell? ⟨b,off+j*2,none⟩=some (.bool neg)/\w.cell? ⟨b,off+j*2+1,none⟩=some (.slice Aj lj cj)/\I w neg Aj lj cj (p.getD j 0):=by
 rcases h.elems with h0 | h1
 ·omega
 ·exact h1
theorem PolyP.take (h:PolyP I w A len cap p) {k:Nat} (hk:k<=len):PolyP I w A k cap (p.take k):=by
 refine ⟨by rw[List.length_take,h.length];omega,by have:=h.cap;omega,?_⟩
 rcases Nat.eq_zero_or_pos k with h0 | h0
 ·exact .inl h0
 ·obtain ⟨b,off,hA,hlt,hc⟩:=h.get (by omega)
  refine .inr ⟨b,off,hA,hlt,fun j hj=>?_⟩
  obtain ⟨neg,Aj,lj,cj,h1,h2,h3⟩:=hc j (by omega)
  refine ⟨neg,Aj,lj,cj,h1,h2,?_⟩
  have e:(p.take k).getD j 0=p.getD j 0:=by simp[List.getD_eq_getElem?_getD,hj]
  rw[e];exact h3
end
structure PRow (w:World) (g:Nat) (zs:List Int):Prop where
 blk:∃ cs,Blk w g 38 cs/\cs.size=zs.length*2
 elems:∀ j,j<zs.length->∃ neg A l c,w.cell? ⟨g,j*2,none⟩=some (.bool neg)/\w.cell? ⟨g,j*2+1,none⟩=some (.slice A l c)/\IntN w neg A l c (zs.getD j 0)
section
variable {w w':World} {g:Nat} {zs:List Int}
theorem PRow.lt (h:PRow w g zs):g<w.heap.size:=by
 obtain ⟨cs,hb,_⟩:=h.blk
 exact hb.lt
theorem PRow.frozen (h:PRow w g zs) (i:Nat):w.frozen? ⟨g,i,none⟩=false:=by
 obtain ⟨cs,hb,_⟩:=h.blk
 exact hb.frozen i
theorem PRow.below (h:PRow w g zs) (hb:Below w.heap.size w w'):PRow w' g zs:=by
 have hlt:=h.lt
 obtain ⟨cs,hk,hs⟩:=h.blk
 refine ⟨⟨cs,hk.below hb hlt,hs⟩,fun j hj=>?_⟩
 obtain ⟨neg,A,l,c,h1,h2,h3⟩:=h.elems j hj
 exact ⟨neg,A,l,c,(hb.cell (p:=⟨g,j*2,none⟩) hlt).trans h1,(hb.cell (p:=⟨g,j*2+1,none⟩) hlt).trans h2,h3.below hb⟩
theorem PRow.poly (h:PRow w g zs) {cap:Nat} (hc:zs.length<=cap):PolyN w (some ⟨g,0,none⟩) zs.length cap zs :=
 ⟨rfl,hc,.inr ⟨g,0,rfl,h.lt,fun j hj=>by simpa using h.elems j hj⟩⟩
theorem PRow.set_ (h:PRow w g zs) {i:Nat} (hi:i<zs.length) {neg:Bool} {A:Option Addr} {l c:Nat} {z:Int} (hz:IntN w neg A l c z) :
  PRow ((w.setCell ⟨g,i*2,none⟩ (.bool neg)).setCell ⟨g,i*2+1,none⟩ (.slice A l c)) g (zs.set i z):=by
 obtain ⟨cs,hk,hs⟩:=h.blk
 obtain ⟨n0,A0,l0,c0,e0,e1,_⟩:=h.elems i hi
 have e1':(w.setCell ⟨g,i*2,none⟩ (.bool neg)).cell? ⟨g,i*2+1,none⟩=some (.slice A0 l0 c0):=by
  rw[World.cell?_setCell_other w _ _ _ (by simp)];exact e1
 have keep:∀ {neg' A' l' c' z'},IntN w neg' A' l' c' z'->IntN ((w.setCell ⟨g,i*2,none⟩ (.bool neg)).setCell ⟨g,i*2+1,none⟩ (.slice A l c)) neg' A' l' c' z' :=
  fun hn=>(hn.store _ e0 (noDigit_bool _)).store _ e1' (noDigit_slice _ _ _)
 have hk1:=(hk.set_ (i*2) (.bool neg)).set_ (i*2+1) (.slice A l c)
 refine ⟨⟨_,hk1,by simp[hs]⟩,fun j hj=>?_⟩
 rw[List.length_set] at hj
 rcases Nat.decEq j i with hne | heq
 ·obtain ⟨n1,A1,l1,c1,f0,f1,f2⟩:=h.elems j hj
  refine ⟨n1,A1,l1,c1,?_,?_,?_⟩
  ·rw[World.cell?_setCell_other _ _ _ _ (by intro e;injection e;omega),World.cell?_setCell_other _ _ _ _ (by intro e;injection e;omega)];exact f0
  ·rw[World.cell?_setCell_other _ _ _ _ (by intro e;injection e;omega),World.cell?_setCell_other _ _ _ _ (by intro e;injection e;omega)];exact f1
  ·have e:(zs.set i z).getD j 0=zs.getD j 0:=by
    rw[List.getD_eq_getElem?_getD,List.getElem?_set_ne (by omega),<- List.getD_eq_getElem?_getD]
   rw[e];exact keep f2
 ·subst heq
  refine ⟨neg,A,l,c,?_,?_,?_⟩
  ·rw[hk1.cell,Array.getElem?_setIfInBounds_ne (by omega),Array.getElem?_setIfInBounds_self_of_lt (by omega)]
  ·rw[hk1.cell,Array.getElem?_setIfInBounds_self_of_lt (by rw[Array.size_setIfInBounds];omega)]
  ·have e:(zs.set j z).getD j 0=z:=by simp[List.getD_eq_getElem?_getD,hi]
   rw[e];exact keep hz
end
end Go.Proofs.YtpeiiomjnjemjaaGreat
namespace Go.Proofs.YtpeiiomjnjemjaaGreat
open Go.RowKit
theorem SmI.zero:SmI 0:=by show dlen 0<=_;rw[dlen_zero];omega
set_option maxHeartbeats 1000000 in
theorem ptrim_any {I:IntPred} (hI:IK I) (A:Option Addr) (len cap:Nat) (p:List Int) (w:World) (h:PolyP I w A len cap p) (hs:SmP p) (hm:len<=1099511627776) :
  Calls Tryz.prog 14 #[.slice A len cap] w fun e w'=>∃ len',e=.returned (.slice A len' cap)/\PolyP I w' A len' cap (ptrim p)/\len'=plen p/\Below w.heap.size w w':=by
 have hfin:PolyP I w A (plen p) cap (ptrim p):=h.take (by have:=plen_le p;have:=h.length;omega)
 have htl:plen p<=len:=by have:=plen_le p;have:=h.length;omega
 have hcap:=h.cap
 go_enter Tryz.func14,Tryz.ntmps14
 go_wp2
 go_loopw [3] (fun n wr=>∃ k:Nat,k<=len/\plen p<=k/\n=.int .i64 k/\Below w.heap.size w wr) (fun n _=>(intOf n).toNat)
 case atStart=>exact ⟨len,by omega,by omega,rfl,Below.refl _ _⟩
 case round =>
  obtain ⟨k,hk,ht,rfl,hbw⟩:=hrel
  have Hf:=Lh (hfin.below hI hbw)
  have Hb:=Lh hbw
  cases k with
  | zero =>
    have h0:plen p=0:=by omega
    have H0:=Lh h0
    clear hfin h hbw h0 ht htl
    go_wp2
    go_ret
    rw[H0.out] at Hf
    exact ⟨0,rfl,Hf.out,H0.out.symm,Hb.out⟩
  | succ k =>
    obtain ⟨b,off,rfl,hb,hc⟩:=h.get (by omega)
    obtain ⟨neg,Aj,lj,cj,c0,c1,hz⟩:=hc k (by omega)
    have e0:=(hbw.cell (p:=⟨b,off+k*2,none⟩) hb).trans c0
    have e1:=(hbw.cell (p:=⟨b,off+k*2+1,none⟩) hb).trans c1
    have hz2:=(hI.at_ hz).below hbw
    have hpr:=Lh (plen_pred p k ht)
    have heq:=Lh (plen_eq p k ht)
    have hsk:=hs.getD k
    clear hc h hfin hbw c0 c1 hz
    go_wp2_with fail
    refine (isign_any _ _ _ _ _ _ hz2 hsk).mono ?_
    rintro e w2 ⟨rfl,rfl⟩
    have hbn:Below w.heap.size w (wr.alloc (Obj.cells #[Value.bool neg,Value.slice Aj lj cj] 38)):=Hb.out.alloc Hb.out.size _
    have hfn:=Hf.out.below hI ((Below.refl wr.heap.size wr).alloc (Nat.le_refl _) (Obj.cells #[Value.bool neg,Value.slice Aj lj cj] 38))
    have Hbn:=Lh hbn
    have Hfn:=Lh hfn
    clear hbn hfn hz2 hsk
    by_cases h0:p.getD k 0=0
    ·rw[h0]
     have hb0:(sg 0 == 0)=true:=rfl
     have H0:=Lh h0
     clear h0
     go_wp2
     go_roundw
     case rel=>exact ⟨k,by omega,hpr.out H0.out,by go_num,Hbn.out⟩
     case measure=>simp[intOf]
    ·have hb0:(sg (p.getD k 0) == 0)=false:=by
      rw[beq_eq_false_iff_ne]
      intro h1
      rcases sg_cases (p.getD k 0) with ⟨a1,a2⟩ | ⟨a1,a2⟩ | ⟨a1,a2⟩<;>omega
     have h1:=heq.out h0
     generalize sg (p.getD k 0)=s at hb0 ⊢
     clear h0
     have H1:=Lh h1
     clear h1
     go_wp2
     go_ret
     rw[H1.out] at Hfn
     exact ⟨k+1,rfl,Hfn.out,H1.out.symm,Hbn.out⟩
set_option maxHeartbeats 400000 in
theorem degree_any (A:Option Addr) (len cap:Nat) (p:List Int) (w:World) (h:PolyAt w A len cap p) (hs:SmP p) (hm:len<=1099511627776) :
  Calls Tryz.prog 7 #[.slice A len cap] w fun e w'=>e=.returned (.int .i64 ((plen p:Nat)-1:Int))/\Below w.heap.size w w':=by
 have hpl:plen p<=1099511627776:=by have:=plen_le p;have:=h.length;omega
 go_enter Tryz.func7,Tryz.ntmps7
 go_wp2_with fail
 refine (ptrim_any ikAt _ _ _ _ _ h hs hm).mono ?_
 rintro e w1 ⟨l1,rfl,h1,rfl,hb⟩
 have Hb:=Lh hb
 clear h h1 hb
 go_wp2
 go_ret
 exact ⟨rfl,Hb.out⟩
def plead (p:List Int):Int:=p.getD (plen p-1) 0
set_option maxHeartbeats 1000000 in
theorem lead_any (A:Option Addr) (len cap:Nat) (p:List Int) (w:World) (h:PolyAt w A len cap p) (hs:SmP p) (hm:len<=1099511627776) :
  Calls Tryz.prog 51 #[.slice A len cap] w fun e w'=>∃ neg' A' len' cap',e=.returned (.agg #[.bool neg',.slice A' len' cap'])/\IntN w' neg' A' len' cap' (plead p)/\Below w.heap.size w w':=by
 have hb0:Below w.heap.size w (w.alloc (ibox false none 0 0)):=(Below.refl _ _).alloc (Nat.le_refl _) _
 have h0:=h.below ikAt hb0
 have hpl:plen p<=1099511627776:=by have:=plen_le p;have:=h.length;omega
 have hlen:=Lh h.length
 clear h
 go_enter Tryz.func51,Tryz.ntmps51
 go_wp2_with fail
 refine (ptrim_any ikAt _ _ _ _ _ h0 hs hm).mono ?_
 rintro e w1 ⟨l1,rfl,h1,hl1,hb1⟩
 obtain ⟨hc,hf⟩:=bcell hb1
 have hsz:=hb1.size
 simp only[World.size_alloc] at hsz
 have Hb1:=Lh hb1
 have Hb0:=Lh hb0
 clear hb1 hb0 h0
 by_cases hz:plen p=0
 ·subst hl1
  rw[hz]
  have hp0:plead p=0:=by
   unfold plead
   rw[hz]
   cases p with
   | nil=>rfl
   | cons d ds =>
     by_cases h2:plen ds=0
     ·by_cases h3:d=0
      ·simp[h3]
      ·rw[plen_cons_one h2 h3] at hz;omega
     ·rw[plen_cons_succ h2] at hz;omega
  have HI:Hid (IntN w1 false none 0 0 (plead p)):=by rw[hp0];exact ⟨NatN.zero _ _ _,by simp⟩
  have Hc:=Lh hc
  clear h1 hz hp0
  go_wp2
  refine bodyPost_ret (v:=.agg #[.bool false,.slice none 0 0]) (by simp[results,Tryz.results51,go_sem,hc]) rfl ⟨_,_,_,_,rfl,HI.out.ret _ _ (b0:=false) (A0:=none) (l0:=0) (c0:=0) ?_ ?_,?_⟩
  ·rw[Hc.out _ _ (by simp)];go_simp
  ·rw[Hc.out _ _ (by simp)];go_simp
  ·exact ((Hb0.out.trans (Hb1.out.mono Hb0.out.size)).setCell (by simp) _).setCell (by simp) _
 ·obtain ⟨k,hk⟩:∃ k,l1=k+1:=⟨l1-1,by omega⟩
  subst hk
  have hk2:k<=1099511627776:=by omega
  have Hl1:=Lh hl1
  clear hl1
  obtain ⟨b,off,rfl,hb,hcc⟩:=h1.get (by omega)
  obtain ⟨neg,Aj,lj,cj,c0,c1,hzz⟩:=hcc k (by omega)
  have hsk:=hs.ptrim.getD k
  have hval:Hid ((ptrim p).getD k 0=plead p):=by
   show _=_
   have:=Hl1.out
   unfold plead ptrim
   rw[<- this]
   simp[List.getD_eq_getElem?_getD]
  clear hcc h1 hz
  go_wp2_with fail
  refine (inormal_any _ _ _ _ _ _ hzz hsk).mono ?_
  rintro e w2 ⟨n2,A2,l2,c2,rfl,h2,hb2⟩
  clear hc hf
  have hb3:=Hb1.out.trans (hb2.mono Hb1.out.size)
  obtain ⟨hc,hf⟩:=bcell hb3
  have hsz2:=hb2.size
  have Hc:=Lh hc
  have H2:=Lh h2
  rw[hval.out] at H2
  have Hb3:=Lh hb3
  clear h2 hb2 hb3 hzz hsk c0 c1
  go_wp2
  refine bodyPost_ret (v:=.agg #[.bool n2,.slice A2 l2 c2]) (by simp[results,Tryz.results51,go_sem,hc]) rfl ⟨_,_,_,_,rfl,H2.out.ret _ _ (b0:=false) (A0:=none) (l0:=0) (c0:=0) ?_ ?_,?_⟩
  ·rw[Hc.out _ _ (by simp)];go_simp
  ·rw[Hc.out _ _ (by simp)];go_simp
  ·exact ((Hb0.out.trans (Hb3.out.mono Hb0.out.size)).setCell (by simp) _).setCell (by simp) _
end Go.Proofs.YtpeiiomjnjemjaaGreat
namespace Go.Proofs.YtpeiiomjnjemjaaGreat
open Go.RowKit
theorem info_int:(Tryz.prog.info? 38).map (fun i=>(i.zero,i.size,i.bytes))=some (some (.agg #[.bool false,.slice none 0 0]),2,32):=by kernel_rfl
noncomputable def zcells (n:Nat):Array Value:=madeCells #[.bool false,.slice none 0 0] (n*2)
theorem zcells_size (n:Nat):(zcells n).size=n*2:=by simp[zcells,size_madeCells]
theorem zcells_even (n j:Nat) (h:j<n):(zcells n)[j*2]?=some (.bool false):=by
 have e:(j*2) % 2=0:=by omega
 have r:(Array.range (n*2))[j*2]?=some (j*2):=by rw[Array.getElem?_eq_some_iff];exact ⟨by simp;omega,by simp⟩
 simp only[zcells,madeCells,Array.getElem?_map,r,Option.map_some]
 show some (#[Value.bool false,Value.slice none 0 0][(j*2) % 2]!)=_
 rw[e];rfl
theorem zcells_odd (n j:Nat) (h:j<n):(zcells n)[j*2+1]?=some (.slice none 0 0):=by
 have e:(j*2+1) % 2=1:=by omega
 have r:(Array.range (n*2))[j*2+1]?=some (j*2+1):=by rw[Array.getElem?_eq_some_iff];exact ⟨by simp;omega,by simp⟩
 simp only[zcells,madeCells,Array.getElem?_map,r,Option.map_some]
 show some (#[Value.bool false,Value.slice none 0 0][(j*2+1) % 2]!)=_
 rw[e];rfl
theorem wpList_make_poly (w:World) {ops:Array Oper} {rest:List Oper} {o:Oper} {a:Act} {Q:Exit->Act->World->Prop}
  (hg:o.guard=none) (l c:Operand) (hop:o.op=Op.makeSlice 26 l c) (n:Nat) (hl:a.eval l=.int .i64 (n:Int)) (hc:a.eval c=.int .i64 (n:Int)) (hn:n<=4398046511104)
  (hK:∀ w',PRow w' w.heap.size (List.replicate n 0)->Below w.heap.size w w'->w'.heap.size=w.heap.size+1->wpList Tryz.prog ops Q rest (a.put o.dst (.slice (some ⟨w.heap.size,0,none⟩) n n)) w') :
  wpList Tryz.prog ops Q (o :: rest) a w:=by
 obtain ⟨i,hi,hz,hs,hb⟩:=info_parts info_int
 refine wpList_plain hg fun K hK'=>?_
 have hrun:=run_make (P:=Tryz.prog) w 26 38 i (.agg #[.bool false,.slice none 0 0]) Tryz.underlying26 hi hz .i64 .i64 (n:Int) (n:Int) (by omega) (by omega) (by rw[hb];omega) (by omega)
 unfold Oper.wp
 simp[execOp,hop,hl,hc,hrun,Result.andThen]
 have hB:Blk (w.alloc (.cells (zcells n) 38)) w.heap.size 38 (zcells n):=Blk.new w _ _
 have hrow:PRow (w.alloc (.cells (zcells n) 38)) w.heap.size (List.replicate n 0):=by
  refine ⟨⟨_,hB,by rw[zcells_size,List.length_replicate]⟩,fun j hj=>?_⟩
  rw[List.length_replicate] at hj
  refine ⟨false,none,0,0,by rw[hB.cell,zcells_even n j hj],by rw[hB.cell,zcells_odd n j hj],?_⟩
  have e:(List.replicate n (0:Int)).getD j 0=0:=by simp[List.getD_eq_getElem?_getD,List.getElem?_replicate];split<;>rfl
  rw[e]
  exact ⟨NatN.zero _ _ _,by simp⟩
 have e2:madeCells (Value.agg #[.bool false,.slice none 0 0]).cells (n*i.size)=zcells n:=by rw[hs];rfl
 rw[e2]
 exact hK' _ _ (hK _ hrow ((Below.refl _ _).alloc (Nat.le_refl _) _) (by simp))
structure I64At (w:World) (A:Option Addr) (len cap:Nat) (p:List Int):Prop where
 length:p.length=len
 cap:len<=cap
 cells:len=0∨∃ b off,A=some ⟨b,off,none⟩/\b<w.heap.size/\∀ j,j<len->w.cell? ⟨b,off+j,none⟩=some (.int .i64 (p.getD j 0))
theorem I64At.below {w w':World} {A:Option Addr} {len cap:Nat} {p:List Int} (h:I64At w A len cap p) (hb:Below w.heap.size w w'):I64At w' A len cap p:=by
 refine ⟨h.length,h.cap,?_⟩
 rcases h.cells with h0 | ⟨b,off,hA,hlt,hc⟩
 ·exact .inl h0
 ·exact .inr ⟨b,off,hA,Nat.lt_of_lt_of_le hlt hb.size,fun j hj=>(hb.cell (p:=⟨b,off+j,none⟩) hlt).trans (hc j hj)⟩
theorem I64At.at_ {w:World} {A:Option Addr} {len cap:Nat} {p:List Int} (h:I64At w A len cap p) (hl:0<len) :
  ∃ b off,A=some ⟨b,off,none⟩/\b<w.heap.size/\∀ j,j<len->w.cell? ⟨b,off+j,none⟩=some (.int .i64 (p.getD j 0)):=by
 rcases h.cells with h0 | h1
 ·omega
 ·exact h1
def upto (p:List Int) (k n:Nat):List Int:=(List.range n).map fun j=>if j<k then p.getD j 0 else 0
theorem upto_length (p:List Int) (k n:Nat):(upto p k n).length=n:=by simp[upto]
theorem upto_zero (p:List Int) (n:Nat):upto p 0 n=List.replicate n 0:=by
 apply List.ext_getElem?
 intro j
 simp[upto,List.getElem?_replicate]
 by_cases h:j<n<;>simp[h]
theorem upto_set (p:List Int) {k n:Nat} (hk:k<n):(upto p k n).set k (p.getD k 0)=upto p (k+1) n:=by
 apply List.ext_getElem?
 intro j
 by_cases hj:j=k
 ·subst hj
  rw[List.getElem?_set_self (by rw[upto_length];exact hk)]
  simp[upto,hk]
 ·rw[List.getElem?_set_ne (by omega)]
  by_cases h2:j<n
  ·have e:(j<k)=(j<k+1):=by simp;omega
   simp[upto,h2,e]
  ·simp[upto,h2]
theorem upto_full (p:List Int):upto p p.length p.length=p:=by
 apply List.ext_getElem?
 intro j
 by_cases h2:j<p.length
 ·simp[upto,h2,List.getD_eq_getElem?_getD]
 ·simp[upto,h2]
theorem SmI.of64 {z:Int} (h:I64 z):SmI z:=by
 have:=u64_abs h
 unfold U64 at this
 have h2:dlen z.natAbs<=2:=dlen_le_of_lt (by rw[Nat.pow_succ,Nat.pow_one];exact this)
 show dlen z.natAbs<=_
 omega
set_option maxHeartbeats 1000000 in
theorem pof_any (A:Option Addr) (len cap:Nat) (p:List Int) (w:World) (h:I64At w A len cap p) (hp:∀ c∈p,I64 c) (hm:len<=1099511627776) :
  Calls Tryz.prog 6 #[.slice A len cap] w fun e w'=>∃ A' len' cap',e=.returned (.slice A' len' cap')/\PolyN w' A' len' cap' (ptrim p)/\Below w.heap.size w w':=by
 have hlen:=Lh h.length
 go_enter Tryz.func6,Tryz.ntmps6
 go_wp2_with (at_make;refine wpList_make_poly _ rfl (.tmp 7) (.tmp 7) rfl len rfl rfl (by omega) ?_)
 intro w1 hz hb1 hsz
 rw[<- upto_zero p] at hz
 have Hz:=Lh hz
 have Hb1:=Lh hb1
 clear hz hb1 hsz
 go_wp2
 go_loopw [11] (fun i wr=>∃ k:Nat,k<=len/\i=.int .i64 k/\PRow wr w.heap.size (upto p k len)/\Below w.heap.size w wr) (fun i _=>len-(intOf i).toNat)
 case atStart=>exact ⟨0,Nat.zero_le _,rfl,Hz.out,Hb1.out⟩
 case round =>
  clear Hz Hb1
  obtain ⟨k,hk,rfl,hrow,hbw⟩:=hrel
  have Hrow:=Lh hrow
  have Hbw:=Lh hbw
  clear hrow hbw
  by_cases hlt:k<len
  ·obtain ⟨b,off,rfl,hb,hc⟩:=h.at_ (by omega)
   have hcell:=(Hbw.out.cell (p:=⟨b,off+k,none⟩) hb).trans (hc k hlt)
   have hi64:I64 (p.getD k 0):=by
    rw[List.getD_eq_getElem?_getD,List.getElem?_eq_getElem (by rw[hlen.out];exact hlt)]
    exact hp _ (List.getElem_mem _)
   have Hi:=Lh hi64
   have Hh:=Lh h
   clear hc h hi64 hp
   go_wp2_with fail
   have h64:=Hi.out
   rw[List.getD_eq_getElem?_getD] at h64
   refine (iof_any _ _ h64).mono ?_
   rintro e w2 ⟨n2,A2,l2,c2,rfl,h2,hb2⟩
   clear h64
   have hr2:=Hrow.out.below hb2
   obtain ⟨n0,A0,l0,c0,e0,e1,_⟩:=hr2.elems k (by rw[upto_length];exact hlt)
   have hf0:=hr2.frozen (k*2)
   have hf1:=hr2.frozen (k*2+1)
   have Hr2:Hid (PRow ((w2.setCell ⟨w.heap.size,k*2,none⟩ (.bool n2)).setCell ⟨w.heap.size,k*2+1,none⟩ (.slice A2 l2 c2)) w.heap.size (upto p (k+1) len)):=by
    show PRow _ _ _
    rw[<- upto_set p hlt,List.getD_eq_getElem?_getD]
    exact hr2.set_ (by rw[upto_length];exact hlt) h2
   have Hb3:Hid (Below w.heap.size w ((w2.setCell ⟨w.heap.size,k*2,none⟩ (.bool n2)).setCell ⟨w.heap.size,k*2+1,none⟩ (.slice A2 l2 c2))):=((Hbw.out.trans (hb2.mono Hbw.out.size)).setCell (p:=⟨w.heap.size,k*2,none⟩) (Nat.le_refl _) _).setCell (p:=⟨w.heap.size,k*2+1,none⟩) (Nat.le_refl _) _
   clear hr2 h2 hb2
   go_wp2
   go_roundw
   case rel=>exact ⟨k+1,by omega,by go_num,Hr2.out,Hb3.out⟩
   case measure=>simp[intOf];omega
  ·have hk2:len=k:=by omega
   subst hk2
   have hpoly:=Hrow.out.poly (cap:=len) (by rw[upto_length];exact Nat.le_refl _)
   rw[upto_length] at hpoly
   have hup:upto p len len=p:=by have:=upto_full p;rw[hlen.out] at this;exact this
   rw[hup] at hpoly
   have hsm:SmP p:=fun c hc=>SmI.of64 (hp c hc)
   clear h hp
   go_wp2_with fail
   refine (ptrim_any ikN _ _ _ _ _ hpoly hsm hm).mono ?_
   rintro e w2 ⟨l2,rfl,h2,hl2,hb2⟩
   clear hl2
   have H2:=Lh h2
   have Hb2:=Lh (Hbw.out.trans (hb2.mono Hbw.out.size))
   clear h2 hb2 hpoly hup
   go_wp2
   go_ret
   exact ⟨_,_,_,rfl,H2.out,Hb2.out⟩
set_option maxHeartbeats 1000000 in
theorem tnormal_any {I:IntPred} (hI:IK I) (A:Option Addr) (len cap:Nat) (p:List Int) (w:World) (h:PolyP I w A len cap p) (hs:SmP p) (hm:len<=1099511627776) :
  Calls Tryz.prog 80 #[.slice A len cap,.func (.func 47) #[] #[]] w fun e w'=>∃ g,e=.returned (.slice (some ⟨g,0,none⟩) len len)/\PRow w' g p/\w.heap.size<=g/\Below w.heap.size w w':=by
 have hlen:=Lh h.length
 go_enter Tryz.func80,Tryz.ntmps80
 go_wp2_with (at_make;refine wpList_make_poly _ rfl (.tmp 9) (.tmp 9) rfl len rfl rfl (by omega) ?_)
 intro w1 hz hb1 hsz
 rw[<- upto_zero p] at hz
 have Hz:=Lh hz
 have Hb1:=Lh hb1
 clear hz hb1 hsz
 go_wp2
 go_loopw [13] (fun i wr=>∃ k:Nat,k<=len/\i=.int .i64 k/\PRow wr w.heap.size (upto p k len)/\Below w.heap.size w wr) (fun i _=>len-(intOf i).toNat)
 case atStart=>exact ⟨0,Nat.zero_le _,rfl,Hz.out,Hb1.out⟩
 case round =>
  clear Hz Hb1
  obtain ⟨k,hk,rfl,hrow,hbw⟩:=hrel
  have Hrow:=Lh hrow
  have Hbw:=Lh hbw
  clear hrow hbw
  by_cases hlt:k<len
  ·obtain ⟨b,off,rfl,hb,hc⟩:=h.get (by omega)
   obtain ⟨neg,Aj,lj,cj,c0,c1,hzk⟩:=hc k hlt
   have e0:=(Hbw.out.cell (p:=⟨b,off+k*2,none⟩) hb).trans c0
   have e1:=(Hbw.out.cell (p:=⟨b,off+k*2+1,none⟩) hb).trans c1
   have hzr:=(hI.at_ hzk).below Hbw.out
   have hsk:=hs.getD k
   have Hh:=Lh h
   clear hc h c0 c1 hzk
   go_wp2_with fail
   refine (inormal_any _ _ _ _ _ _ (hzr.below ((Below.refl _ _).alloc (Nat.le_refl _) _)) hsk).mono ?_
   rintro e w2 ⟨n2,A2,l2,c2,rfl,h2,hb2⟩
   have hbx:Below wr.heap.size wr w2:=((Below.refl _ _).alloc (Nat.le_refl _) _).trans (hb2.mono (by simp))
   have hr2:=Hrow.out.below hbx
   obtain ⟨n0,A0,l0,c0,e0,e1,_⟩:=hr2.elems k (by rw[upto_length];exact hlt)
   have hf0:=hr2.frozen (k*2)
   have hf1:=hr2.frozen (k*2+1)
   have Hr2:Hid (PRow ((w2.setCell ⟨w.heap.size,k*2,none⟩ (.bool n2)).setCell ⟨w.heap.size,k*2+1,none⟩ (.slice A2 l2 c2)) w.heap.size (upto p (k+1) len)):=by
    show PRow _ _ _
    rw[<- upto_set p hlt]
    exact hr2.set_ (by rw[upto_length];exact hlt) h2
   have Hb3:Hid (Below w.heap.size w ((w2.setCell ⟨w.heap.size,k*2,none⟩ (.bool n2)).setCell ⟨w.heap.size,k*2+1,none⟩ (.slice A2 l2 c2))):=((Hbw.out.trans (hbx.mono Hbw.out.size)).setCell (p:=⟨w.heap.size,k*2,none⟩) (Nat.le_refl _) _).setCell (p:=⟨w.heap.size,k*2+1,none⟩) (Nat.le_refl _) _
   clear hr2 h2 hb2 hbx hzr hsk
   go_wp2
   go_roundw
   case rel=>exact ⟨k+1,by omega,by go_num,Hr2.out,Hb3.out⟩
   case measure=>simp[intOf];omega
  ·have hk2:len=k:=by omega
   subst hk2
   have hup:upto p len len=p:=by have:=upto_full p;rw[hlen.out] at this;exact this
   rw[hup] at Hrow
   clear hup
   go_wp2
   go_ret
   exact ⟨_,rfl,Hrow.out,Nat.le_refl _,Hbw.out⟩
set_option maxHeartbeats 400000 in
theorem pnormal_any {I:IntPred} (hI:IK I) (A:Option Addr) (len cap:Nat) (p:List Int) (w:World) (h:PolyP I w A len cap p) (hs:SmP p) (hm:len<=1099511627776) :
  Calls Tryz.prog 48 #[.slice A len cap] w fun e w'=>∃ g,e=.returned (.slice (some ⟨g,0,none⟩) (plen p) (plen p))/\PRow w' g (ptrim p)/\w.heap.size<=g/\Below w.heap.size w w':=by
 have hpl:plen p<=1099511627776:=by have:=plen_le p;have:=h.length;omega
 go_enter Tryz.func48,Tryz.ntmps48
 go_wp2_with fail
 refine (ptrim_any hI _ _ _ _ _ h hs hm).mono ?_
 rintro e w1 ⟨l1,rfl,h1,rfl,hb1⟩
 have Hb1:=Lh hb1
 have hs2:=hs.ptrim
 clear h hs hb1
 go_wp2_with fail
 refine (tnormal_any hI _ _ _ _ _ h1 hs2 hpl).mono ?_
 rintro e w2 ⟨g,rfl,h2,hg,hb2⟩
 have H2:=Lh h2
 have Hb2:=Lh (Hb1.out.trans (hb2.mono Hb1.out.size))
 have Hg:=Lh (Nat.le_trans Hb1.out.size hg)
 clear h1 h2 hb2 hg hs2
 go_wp2
 go_ret
 exact ⟨_,rfl,H2.out,Hg.out,Hb2.out⟩
end Go.Proofs.YtpeiiomjnjemjaaGreat
