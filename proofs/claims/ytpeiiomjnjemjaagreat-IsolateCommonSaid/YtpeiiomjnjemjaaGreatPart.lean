/- The walks of squarefree.quotient and of squarefree.Part at x^2 - 2. -/
import Derived.Test.YtpeiiomjnjemjaaGreatExq
import Derived.Test.YtpeiiomjnjemjaaGreatAwl
namespace Go.Proofs.YtpeiiomjnjemjaaGreat
open Go.RowKit
def w2:List Int:=[-2,0,1]
set_option maxHeartbeats 1000000 in
theorem quotient_any {I J:IntPred} (hI:IK I) (hJ:IK J) (A:Option Addr) (la ca:Nat) (f:List Int) (B:Option Addr) (lb cb:Nat) (g:List Int) (D:Nat) (w:World) (hf:PolyP I w A la ca f) (hg:PolyP J w B lb cb g) (hsf:SmP f) (fg:FitP g) (h1:1<=plen g) (hla:la<=1000000) (hlb:lb<=1000000) (hD:D<=1000000000) (hok:ExOK D f g) :
  Calls Tryz.prog 38 #[.slice A la ca,.slice B lb cb] w fun e w'=>∃ A1 l1 c1,e=.returned (.slice A1 l1 c1)/\PolyN w' A1 l1 c1 (pexq f g)/\Below w.heap.size w w':=by
 go_enter Tryz.func38,Tryz.ntmps38
 go_wp2_with fail
 refine (exact_any hI hJ _ _ _ _ _ _ _ _ D 1000000000 _ hf hg hsf fg.dl h1 hla hlb hD (by omega) hok).mono ?_
 rintro e w1 ⟨A1,l1,c1,rfl,hp,hb⟩
 have Hp:=Lh hp
 have Hb:=Lh hb
 clear hf hg hp hb
 go_wp2
 go_ret
 exact ⟨_,_,_,rfl,Hp.out,Hb.out⟩
end Go.Proofs.YtpeiiomjnjemjaaGreat
