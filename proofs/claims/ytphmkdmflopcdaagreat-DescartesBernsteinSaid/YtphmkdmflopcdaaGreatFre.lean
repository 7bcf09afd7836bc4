/- Products and sums of polynomials lie in new memory; polynomials apart from a box. -/
import Derived.Test.YtphmkdmflopcdaaGreatIdP
import Derived.Test.YtphmkdmflopcdaaGreatRatD
namespace Go.Proofs.YtphmkdmflopcdaaGreat
open Go.RowKit
set_option maxRecDepth 100000 in
set_option maxHeartbeats 1000000 in
theorem polymul_fr {I J:IntPred} (hI:IK I) (hJ:IK J) (A:Option Addr) (la ca:Nat) (f:List Int) (B:Option Addr) (lb cb:Nat) (g:List Int) (w:World) (hf:PolyP I w A la ca f) (hg:PolyP J w B lb cb g) (ff:FitP f) (fg:FitP g) (hma:la<=400000000) (hmb:lb<=400000000) :
  Calls Tryz.prog 52 #[.slice A la ca,.slice B lb cb] w fun e w'=>∃ A' l' c',e=.returned (.slice A' l' c')/\PolyN w' A' l' c' (polymul (ptrim f) (ptrim g))/\(l'=0∨∃ r,A'=some ⟨r,0,none⟩/\w.heap.size<=r)/\Below w.heap.size w w':=by
 have hpf:plen f<=400000000:=by have:=plen_le f;have:=hf.length;omega
 have hpg:plen g<=400000000:=by have:=plen_le g;have:=hg.length;omega
 have fitt:∀ {q:List Int},FitP q->FitP (ptrim q):=fun {q} h k=>by
  rcases Nat.lt_or_ge k (plen q) with h1 | h1
  ·rw[ptrim,take_getD' q h1];exact h k
  ·rw[getD_out _ (by rw[ptrim_length];exact h1)];unfold Fit;exact Nat.pow_pos BB_pos
 have ff2:=fitt ff
 have fg2:=fitt fg
 go_enter Tryz.func52,Tryz.ntmps52
 go_wp2_with fail
 refine (ptrim_any hI _ _ _ _ _ hf ff.smp (by omega)).mono ?_
 rintro e w1 ⟨l1,rfl,h1,hl1,hb1⟩
 have hg1:=hg.below hJ hb1
 have Hb1:=Lh hb1
 have H1:=Lh h1
 have Hl1:=Lh hl1
 have b1:l1<=400000000:=by omega
 clear hf hg hb1 h1 hl1
 go_wp2_with fail
 refine (ptrim_any hJ _ _ _ _ _ hg1 fg.smp (by omega)).mono ?_
 rintro e w2 ⟨l2,rfl,h2,hl2,hb2⟩
 have h12:=H1.out.below hI hb2
 have Hb2:=Lh (Hb1.out.trans (hb2.mono Hb1.out.size))
 have Hl2:=Lh hl2
 have b2:l2<=400000000:=by omega
 have E1:=Lh (ptrim_length f)
 have E2:=Lh (ptrim_length g)
 clear hb2 hg1 H1 Hb1 hl2
 by_cases h0:l1=0∨l2=0
 ·have hp:polymul (ptrim f) (ptrim g)=[]:=by
   unfold polymul
   rw[if_pos]
   rcases h0 with h0 | h0
   ·exact .inl (List.eq_nil_of_length_eq_zero (by rw[E1.out,<- Hl1.out];exact h0))
   ·exact .inr (List.eq_nil_of_length_eq_zero (by rw[E2.out,<- Hl2.out];exact h0))
  have Hp:=Lh hp
  have H0:=Lh h0
  clear hp h0
  go_wp2_with fail
  refine (convolve_nil _ _ _ _ _ _ _ H0.out b1 b2).mono ?_
  rintro e w3 ⟨rfl,hb3⟩
  have Hb3:=Lh (Hb2.out.trans (hb3.mono Hb2.out.size))
  clear h12 h2 hb3
  go_wp2
  go_ret
  exact ⟨_,_,_,rfl,by rw[Hp.out];exact PolyP.nil _ _ _ _,.inl rfl,Hb3.out⟩
 ·have hp:polymul (ptrim f) (ptrim g)=pmul (ptrim f) (ptrim g):=by
   unfold polymul
   rw[if_neg]
   rintro (e | e)
   ·have:=E1.out;rw[e] at this;have:=Hl1.out;simp at *;omega
   ·have:=E2.out;rw[e] at this;have:=Hl2.out;simp at *;omega
  have hlp:=pmul_length (ptrim f) (ptrim g)
  rw[E1.out,E2.out,<- Hl1.out,<- Hl2.out] at hlp
  have Hp:=Lh hp
  have Hlp:=Lh hlp
  have q1:0<l1:=by omega
  have q2:0<l2:=by omega
  clear hp h0 hlp
  go_wp2_with fail
  refine (convolve_any hI hJ _ _ _ _ _ _ _ _ _ h12 h2 ff2 fg2 q1 q2 b1 b2).mono ?_
  rintro e w3 ⟨r,rfl,hr,hle,hb3⟩
  have Hb3:=Lh (Hb2.out.trans (hb3.mono Hb2.out.size))
  have hpo:=hr.poly (cap:=l1+l2-1) (by rw[Hlp.out];exact Nat.le_refl _)
  rw[Hlp.out] at hpo
  have Hpo:=Lh hpo
  have hle2:w.heap.size<=r:=Nat.le_trans Hb2.out.size hle
  clear h12 h2 hb3 hr hle hpo
  go_wp2
  go_ret
  exact ⟨_,_,_,rfl,by rw[Hp.out];exact Hpo.out,.inr ⟨r,rfl,hle2⟩,Hb3.out⟩
set_option maxHeartbeats 1000000 in
theorem polyadd_fr {I J:IntPred} (hI:IK I) (hJ:IK J) (A:Option Addr) (la ca:Nat) (f:List Int) (B:Option Addr) (lb cb:Nat) (g:List Int) (w:World) (hf:PolyP I w A la ca f) (hg:PolyP J w B lb cb g) (sf:SmP f) (sg:SmP g) (ss:∀ k,Sm ((f.getD k 0).natAbs+(g.getD k 0).natAbs)) (hma:la<=1000000000) (hmb:lb<=1000000000) :
  Calls Tryz.prog 53 #[.slice A la ca,.slice B lb cb] w fun e w'=>∃ A' l' c',e=.returned (.slice A' l' c')/\PolyN w' A' l' c' (ptrim (padd f g))/\(l'=0∨∃ r,A'=some ⟨r,0,none⟩/\w.heap.size<=r)/\Below w.heap.size w w':=by
 have hlen:(padd f g).length=max la lb:=by rw[padd_length,hf.length,hg.length]
 have Hlen:=Lh hlen
 have Hss:=Lh ss
 clear hlen
 go_enter Tryz.func53,Tryz.ntmps53
 go_wp2_with fail
 refine (combine_add hI hJ _ _ _ _ _ _ _ _ _ hf hg sf sg ss hma hmb).mono ?_
 rintro e w1 ⟨r,n,rfl,hn,hrow,hr,hb1⟩
 have hp:=hrow.poly (cap:=n) (by rw[Hlen.out,hn];exact Nat.le_refl _)
 rw[Hlen.out,<- hn] at hp
 have Hb1:=Lh hb1
 have hnb:n<=1000000000:=by omega
 have hsr:SmP (padd f g):=fun c hc=>by
  obtain ⟨k,hk⟩:=List.getElem?_of_mem hc
  have e1:(padd f g).getD k 0=c:=by rw[List.getD_eq_getElem?_getD,hk];rfl
  rw[padd_get] at e1
  rw[<- e1]
  exact (Hss.out k).mono (Int.natAbs_add_le _ _)
 have hr2:=hr
 clear hrow hb1 hr hn ss hf hg
 go_wp2_with fail
 refine (ptrim_any ikN _ _ _ _ _ hp hsr (by omega)).mono ?_
 rintro e w2 ⟨l2,rfl,h2,-,hb2⟩
 have H2:=Lh h2
 have Hb2:=Lh (Hb1.out.trans (hb2.mono Hb1.out.size))
 clear hp h2 hb2
 go_wp2
 go_ret
 exact ⟨_,_,_,rfl,H2.out,.inr ⟨r,rfl,hr2⟩,Hb2.out⟩
structure PolyF (g:Nat) (w:World) (A:Option Addr) (l c:Nat) (p:List Int):Prop where
 n:PolyN w A l c p
 off:l=0∨∃ b o,A=some ⟨b,o,none⟩/\b≠g
section
variable {g:Nat} {w w':World} {A:Option Addr} {l c:Nat} {p:List Int}
theorem PolyF.old (h:PolyN w A l c p) (hg:w.heap.size<=g):PolyF g w A l c p:=by
 refine ⟨h,?_⟩
 rcases h.elems with h0 | ⟨b,o,hA,hlt,_⟩
 ·exact .inl h0
 ·exact .inr ⟨b,o,hA,by omega⟩
theorem PolyF.fresh {B:Nat} (h:PolyN w A l c p) (hf:l=0∨∃ r,A=some ⟨r,0,none⟩/\B<=r) (hg:g<B):PolyF g w A l c p :=
 ⟨h,hf.imp id (fun ⟨r,hA,hr⟩=>⟨r,0,hA,by omega⟩)⟩
theorem PolyF.below (h:PolyF g w A l c p) (hb:Below w.heap.size w w'):PolyF g w' A l c p:=⟨h.n.below ikN hb,h.off⟩
theorem PolyF.put {n n':Bool} {A1 A2:Option Addr} {l1 c1 l2 c2:Nat} {z:Int} (h:PolyF g w A l c p) (hr:IBox w g n A1 l1 c1 z):PolyF g (put2 w g n' A2 l2 c2) A l c p:=by
 refine ⟨⟨h.n.length,h.n.cap,?_⟩,h.off⟩
 rcases h.n.elems with h0 | ⟨b,o,hA,hlt,he⟩
 ·exact .inl h0
 ·rcases h.off with h0 | ⟨b',o',hA',hne⟩
  ·exact .inl h0
  ·rw[hA] at hA'
   injection hA' with e
   injection e with e1 e2 e3
   subst e1 e2
   refine .inr ⟨b,o,hA,by simpa [put2,World.setCell] using hlt,fun j hj=>?_⟩
   obtain ⟨neg,Aj,lj,cj,h1,h2,h3⟩:=he j hj
   refine ⟨neg,Aj,lj,cj,?_,?_,h3.ret _ _ hr.c0 hr.c1⟩
   ·unfold put2
    rw[World.cell?_setCell_other _ _ _ _ (by intro e;injection e with e _;exact hne e.symm),World.cell?_setCell_other _ _ _ _ (by intro e;injection e with e _;exact hne e.symm)]
    exact h1
   ·unfold put2
    rw[World.cell?_setCell_other _ _ _ _ (by intro e;injection e with e _;exact hne e.symm),World.cell?_setCell_other _ _ _ _ (by intro e;injection e with e _;exact hne e.symm)]
    exact h2
end
end Go.Proofs.YtphmkdmflopcdaaGreat
