/- The walks of squarefree.quotient and of squarefree.Part at x^2 - 2. -/
import Derived.Test.YtphmkdmflopcdaaGreatExq
import Derived.Test.YtphmkdmflopcdaaGreatAwl
namespace Go.Proofs.YtphmkdmflopcdaaGreat
open Go.RowKit
def w2:List Int:=[-2,0,1]
theorem w2_pf:pprim w2=w2:=by decide
theorem w2_der:pder w2=[0,2]:=by decide
theorem w2_psr:psr [-2,0,1] [0,1]=[-2]:=by decide
theorem w2_psr2:psr [0,1] [-2]=[]:=by decide
def w2t:RS:=⟨[-2,0,1],[0,1],-1,1⟩
theorem w2_next:w2t.next=⟨[0,1],[-2],-1,1⟩:=by
 simp only[RS.next,RS.mk.injEq]
 exact ⟨by decide,by decide,by decide,by decide⟩
theorem w2_rest:w2t.rest=[-2]:=by decide
theorem w2_start:(⟨ptrim (gpair w2 [0,2]).1,ptrim (gpair w2 [0,2]).2,-1,(-1)^(plen (gpair w2 [0,2]).1-plen (gpair w2 [0,2]).2+1)⟩:RS)=w2t:=by
 simp only[w2t,RS.mk.injEq]
 exact ⟨by decide,by decide,trivial,by decide⟩
theorem w2_seq:rseq 2 (gpair w2 [0,2]).1 (gpair w2 [0,2]).2=[[-2,0,1],[0,1],[-2]]:=by
 unfold rseq
 rw[w2_start]
 have h1:rsq 2 w2t=[[-2]]:=by
  show (if psr w2t.a w2t.b=[] then [] else w2t.rest :: rsq 1 w2t.next)=_
  rw[if_neg (by rw[show psr w2t.a w2t.b=[-2] from w2_psr];simp),w2_rest,w2_next]
  show ([-2]:List Int) :: (if psr [0,1] [-2]=[] then [] else _)=_
  rw[if_pos w2_psr2]
 rw[h1]
 decide
theorem w2_last:lastOf [] (rseq 2 (gpair w2 [0,2]).1 (gpair w2 [0,2]).2)=[-2]:=by rw[w2_seq];decide
theorem w2_cont:pconts 0 [w2,[0,2]]=1:=by decide
theorem w2_ok:rOK 2 ⟨ptrim (gpair w2 [0,2]).1,ptrim (gpair w2 [0,2]).2,-1,(-1)^(plen (gpair w2 [0,2]).1-plen (gpair w2 [0,2]).2+1)⟩:=by
 rw[w2_start]
 refine ⟨⟨fitp_100 (by decide),by decide,(fitp_100 (by decide)).dl,by decide,by decide⟩,fun _=>⟨⟨?_,by decide,by decide,(fit_100 (by decide)).sm,by decide,fit_100 (by decide),fit_100 (by decide),fit_100 (by decide),by decide,fit_100 (by decide),fit_100 (by decide),by decide⟩,?_⟩⟩
 ·exact (fitp_100 (by decide)).smp
 ·rw[w2_next]
  exact ⟨⟨fitp_100 (by decide),by decide,(fitp_100 (by decide)).dl,by decide,by decide⟩,fun h=>absurd w2_psr2 h⟩
theorem w2_sq:∀ p∈rseq 2 (gpair w2 [0,2]).1 (gpair w2 [0,2]).2,SmP p/\p.length<=1000000/\SmP (pprim p)/\SmP (psc (pconts 0 [w2,[0,2]]:Int) (pprim p)):=by
 rw[w2_seq,w2_cont]
 intro p hp
 simp only[List.mem_cons,List.not_mem_nil,or_false] at hp
 rcases hp with rfl | rfl | rfl
 ·exact ⟨(fitp_100 (by decide)).smp,by decide,(fitp_100 (by decide)).smp,(fitp_100 (by decide)).smp⟩
 ·exact ⟨(fitp_100 (by decide)).smp,by decide,(fitp_100 (by decide)).smp,(fitp_100 (by decide)).smp⟩
 ·exact ⟨(fitp_100 (by decide)).smp,by decide,(fitp_100 (by decide)).smp,(fitp_100 (by decide)).smp⟩
theorem w2_gcd (A:Option Addr) (la ca:Nat) (B:Option Addr) (lb cb:Nat) (w:World) (hf:PolyN w A la ca w2) (hg:PolyN w B lb cb [0,2]) :
  Calls Tryz.prog 72 #[.slice A la ca,.slice B lb cb] w fun e w'=>∃ A1 l1 c1,e=.returned (.slice A1 l1 c1)/\PolyN w' A1 l1 c1 [1]/\Below w.heap.size w w':=by
 have h1:=hf.length
 have h2:=hg.length
 refine (gcd_poly ikN ikN A la ca w2 B lb cb [0,2] w hf hg (fitp_100 (by decide)).smp (fitp_100 (by decide)).smp (by rw[<- h1];decide) (by rw[<- h2];decide) (by decide) (by decide) 2 (fitp_100 (by decide)) (fitp_100 (by decide)) w2_ok w2_sq (by rw[w2_cont];exact fit_unit (by decide))).mono ?_
 rintro e w' ⟨A1,l1,c1,rfl,hp,hb⟩
 refine ⟨A1,l1,c1,rfl,?_,hb⟩
 rw[w2_last,w2_cont] at hp
 exact hp
theorem w2_exok:ExOK 1000000000 w2 [1]:=by
 refine ⟨fun t _ j=>((fitp_100 (p:=[1]) (by decide) j).mulok _).symm,by decide,fun t ht=>?_,by decide⟩
 match t,ht with
 | 0,_=>exact (fitp_100 (by decide)).dl
 | 1,_=>exact (fitp_100 (by decide)).dl
 | 2,_=>exact (fitp_100 (by decide)).dl
 | 3,_=>exact (fitp_100 (by decide)).dl
 | t+4,h=>exact absurd h (by
   have:plen w2-(plen [1]-1)=3:=by decide
   omega)
theorem w2_exq:pexq w2 [1]=w2:=by decide
set_option maxHeartbeats 1000000 in
theorem quotient_any {I J:IntPred} (hI:IK I) (hJ:IK J) (A:Option Addr) (la ca:Nat) (f:List Int) (B:Option Addr) (lb cb:Nat) (g:List Int) (D:Nat) (w:World) (hf:PolyP I w A la ca f) (hg:PolyP J w B lb cb g) (hsf:SmP f) (fg:FitP g) (h1:1<=plen g) (hla:la<=1000000) (hlb:lb<=1000000) (hD:D<=1000000000) (hok:ExOK D f g) :
  Calls Tryz.prog 71 #[.slice A la ca,.slice B lb cb] w fun e w'=>∃ A1 l1 c1,e=.returned (.slice A1 l1 c1)/\PolyN w' A1 l1 c1 (pexq f g)/\Below w.heap.size w w':=by
 go_enter Tryz.func71,Tryz.ntmps71
 go_wp2_with fail
 refine (exact_any hI hJ _ _ _ _ _ _ _ _ D 1000000000 _ hf hg hsf fg.dl h1 hla hlb hD (by omega) hok).mono ?_
 rintro e w1 ⟨A1,l1,c1,rfl,hp,hb⟩
 have Hp:=Lh hp
 have Hb:=Lh hb
 clear hf hg hp hb
 go_wp2
 go_ret
 exact ⟨_,_,_,rfl,Hp.out,Hb.out⟩
set_option maxHeartbeats 1000000 in
theorem part_w2 (A:Option Addr) (la ca:Nat) (w:World) (hf:PolyN w A la ca w2) :
  Calls Tryz.prog 40 #[.slice A la ca] w fun e w'=>∃ A1 l1 c1,e=.returned (.slice A1 l1 c1)/\PolyN w' A1 l1 c1 w2/\Below w.heap.size w w':=by
 have hl:la=3:=hf.length.symm
 subst hl
 have sf:SmP w2:=(fitp_100 (by decide)).smp
 go_enter Tryz.func40,Tryz.ntmps40
 go_wp2_with fail
 refine (degree_any _ _ _ _ _ (hf.at_ ikN) sf (by omega)).mono ?_
 rintro e w1 ⟨rfl,hb1⟩
 rw[show (((plen w2:Nat):Int)-1)=2 from by decide]
 have hf1:=hf.below ikN hb1
 have Hb1:=Lh hb1
 clear hf hb1
 go_wp2_with fail
 refine (primitive_any ikN _ _ _ _ _ hf1 sf (by omega)).mono ?_
 rintro e w3 ⟨A3,l3,c3,rfl,h3,hb3⟩
 rw[w2_pf] at h3
 have hl3:l3=3:=h3.length.symm
 subst hl3
 have H3:=Lh h3
 have Hb3:=Lh (Hb1.out.trans (hb3.mono Hb1.out.size))
 clear hf1 hb3 Hb1
 go_wp2_with fail
 refine (derivative_any ikN _ _ _ _ _ h3 sf (by omega)).mono ?_
 rintro e w4 ⟨A4,l4,c4,rfl,h4,hb4⟩
 rw[w2_der] at h4
 have h34:=H3.out.below ikN hb4
 have Hb4:=Lh (Hb3.out.trans (hb4.mono Hb3.out.size))
 have H34:=Lh h34
 clear h3 hb4 H3 Hb3
 go_wp2_with fail
 refine (w2_gcd _ _ _ _ _ _ _ h34 h4).mono ?_
 rintro e w5 ⟨A5,l5,c5,rfl,h5,hb5⟩
 have h35:=H34.out.below ikN hb5
 have Hb5:=Lh (Hb4.out.trans (hb5.mono Hb4.out.size))
 have hl5:l5=1:=h5.length.symm
 subst hl5
 clear h34 h4 hb5 H34 Hb4
 go_wp2_with fail
 refine (quotient_any ikN ikN _ _ _ _ _ _ _ _ 1000000000 _ h35 h5 sf (fitp_100 (by decide)) (by decide) (by omega) (by omega) (by omega) w2_exok).mono ?_
 rintro e w6 ⟨A6,l6,c6,rfl,h6,hb6⟩
 rw[w2_exq] at h6
 have H6:=Lh h6
 have Hb6:=Lh (Hb5.out.trans (hb6.mono Hb5.out.size))
 clear h35 h5 h6 hb6 Hb5
 go_wp2
 go_ret
 exact ⟨_,_,_,rfl,H6.out,Hb6.out⟩
end Go.Proofs.YtphmkdmflopcdaaGreat
