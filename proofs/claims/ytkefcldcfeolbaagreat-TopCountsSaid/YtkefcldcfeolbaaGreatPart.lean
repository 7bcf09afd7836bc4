/- The walks of squarefree.quotient and of squarefree.Part at x^2 - 2. -/
import Derived.Test.YtkefcldcfeolbaaGreatExq
import Derived.Test.YtkefcldcfeolbaaGreatAwl
namespace Go.Proofs.YtkefcldcfeolbaaGreat
open Go.RowKit
def w2:List Int:=[-2,0,1]
theorem awO:aal w2=w2:=by decide
theorem ave:aaz w2=[0,2]:=by decide
theorem avf:psr [-2,0,1] [0,1]=[-2]:=by decide
theorem aoR:psr [0,1] [-2]=[]:=by decide
def w2t:RS:=⟨[-2,0,1],[0,1],-1,1⟩
theorem aoS:w2t.next=⟨[0,1],[-2],-1,1⟩:=by
 simp only[RS.next,RS.mk.injEq]
 exact ⟨by decide,by decide,by decide,by decide⟩
theorem as8:w2t.rest=[-2]:=by decide
theorem ame:(⟨aaf (aaw w2 [0,2]).1,aaf (aaw w2 [0,2]).2,-1,(-1)^(aad (aaw w2 [0,2]).1-aad (aaw w2 [0,2]).2+1)⟩:RS)=w2t:=by
 simp only[w2t,RS.mk.injEq]
 exact ⟨by decide,by decide,trivial,by decide⟩
theorem arS:afx 2 (aaw w2 [0,2]).1 (aaw w2 [0,2]).2=[[-2,0,1],[0,1],[-2]]:=by
 unfold afx
 rw[ame]
 have h1:rsq 2 w2t=[[-2]]:=by
  show (if psr w2t.a w2t.b=[] then [] else w2t.rest :: rsq 1 w2t.next)=_
  rw[if_neg (by rw[show psr w2t.a w2t.b=[-2] from avf];simp),as8,aoS]
  show ([-2]:List Int) :: (if psr [0,1] [-2]=[] then [] else _)=_
  rw[if_pos aoR]
 rw[h1]
 decide
theorem as9:lastOf [] (afx 2 (aaw w2 [0,2]).1 (aaw w2 [0,2]).2)=[-2]:=by rw[arS];decide
theorem ald:aa6 0 [w2,[0,2]]=1:=by decide
theorem awP:rOK 2 ⟨aaf (aaw w2 [0,2]).1,aaf (aaw w2 [0,2]).2,-1,(-1)^(aad (aaw w2 [0,2]).1-aad (aaw w2 [0,2]).2+1)⟩:=by
 rw[ame]
 refine ⟨⟨aaU (by decide),by decide,(aaU (by decide)).dl,by decide,by decide⟩,fun _=>⟨⟨?_,by decide,by decide,(abq (by decide)).sm,by decide,abq (by decide),abq (by decide),abq (by decide),by decide,abq (by decide),abq (by decide),by decide⟩,?_⟩⟩
 ·exact (aaU (by decide)).smp
 ·rw[aoS]
  exact ⟨⟨aaU (by decide),by decide,(aaU (by decide)).dl,by decide,by decide⟩,fun h=>absurd aoR h⟩
theorem awQ:∀ p∈afx 2 (aaw w2 [0,2]).1 (aaw w2 [0,2]).2,SmP p/\p.length<=1000000/\SmP (aal p)/\SmP (psc (aa6 0 [w2,[0,2]]:Int) (aal p)):=by
 rw[arS,ald]
 intro p hp
 simp only[List.mem_cons,List.not_mem_nil,or_false] at hp
 rcases hp with rfl | rfl | rfl
 ·exact ⟨(aaU (by decide)).smp,by decide,(aaU (by decide)).smp,(aaU (by decide)).smp⟩
 ·exact ⟨(aaU (by decide)).smp,by decide,(aaU (by decide)).smp,(aaU (by decide)).smp⟩
 ·exact ⟨(aaU (by decide)).smp,by decide,(aaU (by decide)).smp,(aaU (by decide)).smp⟩
theorem avg (A:Option Addr) (la ca:Nat) (B:Option Addr) (lb cb:Nat) (w:World) (hf:aaB w A la ca w2) (hg:aaB w B lb cb [0,2]) :
  Calls Tryz.prog 26 #[.slice A la ca,.slice B lb cb] w fun e w'=>∃ A1 l1 c1,e=.returned (.slice A1 l1 c1)/\aaB w' A1 l1 c1 [1]/\Below w.heap.size w w':=by
 have h1:=hf.length
 have h2:=hg.length
 refine (amd ikN ikN A la ca w2 B lb cb [0,2] w hf hg (aaU (by decide)).smp (aaU (by decide)).smp (by rw[<- h1];decide) (by rw[<- h2];decide) (by decide) (by decide) 2 (aaU (by decide)) (aaU (by decide)) awP awQ (by rw[ald];exact ag2 (by decide))).mono ?_
 rintro e w' ⟨A1,l1,c1,rfl,hp,hb⟩
 refine ⟨A1,l1,c1,rfl,?_,hb⟩
 rw[as9,ald] at hp
 exact hp
theorem ata:au5 1000000000 w2 [1]:=by
 refine ⟨fun t _ j=>((aaU (p:=[1]) (by decide) j).adq _).symm,by decide,fun t ht=>?_,by decide⟩
 match t,ht with
 | 0,_=>exact (aaU (by decide)).dl
 | 1,_=>exact (aaU (by decide)).dl
 | 2,_=>exact (aaU (by decide)).dl
 | 3,_=>exact (aaU (by decide)).dl
 | t+4,h=>exact absurd h (by
   have:aad w2-(aad [1]-1)=3:=by decide
   omega)
theorem avh:arP w2 [1]=w2:=by decide
set_option maxHeartbeats 1000000 in
theorem agK {I J:aas} (hI:IK I) (hJ:IK J) (A:Option Addr) (la ca:Nat) (f:List Int) (B:Option Addr) (lb cb:Nat) (g:List Int) (D:Nat) (w:World) (hf:aar I w A la ca f) (hg:aar J w B lb cb g) (hsf:SmP f) (fg:abw g) (h1:1<=aad g) (hla:la<=1000000) (hlb:lb<=1000000) (hD:D<=1000000000) (hok:au5 D f g) :
  Calls Tryz.prog 36 #[.slice A la ca,.slice B lb cb] w fun e w'=>∃ A1 l1 c1,e=.returned (.slice A1 l1 c1)/\aaB w' A1 l1 c1 (arP f g)/\Below w.heap.size w w':=by
 go_enter Tryz.func36,Tryz.ntmps36
 go_wp2_with fail
 refine (aoM hI hJ _ _ _ _ _ _ _ _ D 1000000000 _ hf hg hsf fg.dl h1 hla hlb hD (by omega) hok).mono ?_
 rintro e w1 ⟨A1,l1,c1,rfl,hp,hb⟩
 have Hp:=Lh hp
 have Hb:=Lh hb
 clear hf hg hp hb
 go_wp2
 go_ret
 exact ⟨_,_,_,rfl,Hp.out,Hb.out⟩
set_option maxHeartbeats 1000000 in
theorem atb (A:Option Addr) (la ca:Nat) (w:World) (hf:aaB w A la ca w2) :
  Calls Tryz.prog 15 #[.slice A la ca] w fun e w'=>∃ A1 l1 c1,e=.returned (.slice A1 l1 c1)/\aaB w' A1 l1 c1 w2/\Below w.heap.size w w':=by
 have hl:la=3:=hf.length.symm
 subst hl
 have sf:SmP w2:=(aaU (by decide)).smp
 go_enter Tryz.func15,Tryz.ntmps15
 go_wp2_with fail
 refine (aaO _ _ _ _ _ (hf.at_ ikN) sf (by omega)).mono ?_
 rintro e w1 ⟨rfl,hb1⟩
 rw[show (((aad w2:Nat):Int)-1)=2 from by decide]
 have hf1:=hf.below ikN hb1
 have Hb1:=Lh hb1
 clear hf hb1
 go_wp2_with fail
 refine (abg ikN _ _ _ _ _ hf1 sf (by omega)).mono ?_
 rintro e w3 ⟨A3,l3,c3,rfl,h3,hb3⟩
 rw[awO] at h3
 have hl3:l3=3:=h3.length.symm
 subst hl3
 have H3:=Lh h3
 have Hb3:=Lh (Hb1.out.trans (hb3.mono Hb1.out.size))
 clear hf1 hb3 Hb1
 go_wp2_with fail
 refine (acp ikN _ _ _ _ _ h3 sf (by omega)).mono ?_
 rintro e w4 ⟨A4,l4,c4,rfl,h4,hb4⟩
 rw[ave] at h4
 have h34:=H3.out.below ikN hb4
 have Hb4:=Lh (Hb3.out.trans (hb4.mono Hb3.out.size))
 have H34:=Lh h34
 clear h3 hb4 H3 Hb3
 go_wp2_with fail
 refine (avg _ _ _ _ _ _ _ h34 h4).mono ?_
 rintro e w5 ⟨A5,l5,c5,rfl,h5,hb5⟩
 have h35:=H34.out.below ikN hb5
 have Hb5:=Lh (Hb4.out.trans (hb5.mono Hb4.out.size))
 have hl5:l5=1:=h5.length.symm
 subst hl5
 clear h34 h4 hb5 H34 Hb4
 go_wp2_with fail
 refine (agK ikN ikN _ _ _ _ _ _ _ _ 1000000000 _ h35 h5 sf (aaU (by decide)) (by decide) (by omega) (by omega) (by omega) ata).mono ?_
 rintro e w6 ⟨A6,l6,c6,rfl,h6,hb6⟩
 rw[avh] at h6
 have H6:=Lh h6
 have Hb6:=Lh (Hb5.out.trans (hb6.mono Hb5.out.size))
 clear h35 h5 h6 hb6 Hb5
 go_wp2
 go_ret
 exact ⟨_,_,_,rfl,H6.out,Hb6.out⟩
end Go.Proofs.YtkefcldcfeolbaaGreat
