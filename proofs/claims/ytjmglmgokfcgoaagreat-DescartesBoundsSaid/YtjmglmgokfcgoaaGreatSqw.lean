/- The walks of squarefree.Part, sturm.All and sturm.Count at polynomials that are not too large. -/
import Derived.Test.YtjmglmgokfcgoaaGreatRpg
import Derived.Test.YtjmglmgokfcgoaaGreatStd
import Derived.Test.YtjmglmgokfcgoaaGreatPart
import Derived.Test.YtjmglmgokfcgoaaGreatStg
import Derived.Test.YtjmglmgokfcgoaaGreatExq
import Derived.Test.YtjmglmgokfcgoaaGreatGcx
import Derived.Test.YtjmglmgokfcgoaaGreatLes
namespace Go.Proofs.YtjmglmgokfcgoaaGreat
open Go.RowKit
def pline (k:Nat) (f g:List Int):Int:=chE true (pchain k f g)-chE false (pchain k f g)
end Go.Proofs.YtjmglmgokfcgoaaGreat
namespace Go.Proofs.YtjmglmgokfcgoaaGreat
open Go.RowKit
end Go.Proofs.YtjmglmgokfcgoaaGreat
namespace Go.Proofs.YtjmglmgokfcgoaaGreat
open Go.RowKit
end Go.Proofs.YtjmglmgokfcgoaaGreat
namespace Go.Proofs.YtjmglmgokfcgoaaGreat
open Go.RowKit
theorem frac_lt {z z':Int} {q q':Nat} (hq:0<q) (hq':0<q'):((z:Rat) / (q:Rat))<((z':Rat) / (q':Rat))↔z*(q':Int)<z'*(q:Int):=by
 have h1:(0:Rat)<((q:Nat):Rat):=by exact_mod_cast hq
 have h2:(0:Rat)<((q':Nat):Rat):=by exact_mod_cast hq'
 rw [Rat.div_lt_iff h1,show ((z':Int):Rat) / ((q':Nat):Rat)*((q:Nat):Rat)=((z':Int):Rat)*((q:Nat):Rat) / ((q':Nat):Rat) by rw [Rat.div_def,Rat.div_def];grind,Rat.lt_div_iff h2]
 rw [← Rat.intCast_natCast,← Rat.intCast_natCast,← Rat.intCast_mul,← Rat.intCast_mul,Rat.intCast_lt_intCast]
theorem pt_lt {z z':Int} {q q':Nat} (hq:0<q) (hq':0<q'):Pt.of ((z:Rat) / (q:Rat))<Pt.of ((z':Rat) / (q':Rat))↔z*(q':Int)<z'*(q:Int):=by rw [Pt.of_lt_of,frac_lt hq hq']
theorem Lst.append {P Q:Pt→Prop} {xs ys:List Pt} (h:Lst P xs) (h':Lst Q ys) (hpq:∀ x y,P x→Q y→x<y):Lst (fun x=>P x∨Q x) (xs ++ ys) :=
 ⟨List.pairwise_append.2 ⟨h.1,h'.1,fun x hx y hy=>hpq x y ((h.2 x).1 hx) ((h'.2 y).1 hy)⟩,fun x=>by rw [List.mem_append,h.2,h'.2]⟩
def Hf (f:List Int) (a b:Pt) (xs:List Pt):Prop:=Lst (fun x=>sgp f x=0∧a<x∧(x<b∨x=b)) xs
structure Pai (W:World) (g:Nat) (x0 x1:Int):Prop where
 c0:W.cell? ⟨g,0,none⟩=some (.int .i8 x0)
 c1:W.cell? ⟨g,1,none⟩=some (.int .i8 x1)
theorem Pai.move {W W':World} {g:Nat} {x0 x1:Int} (h:Pai W g x0 x1) (hb:Below W.heap.size W W'):Pai W' g x0 x1:=by
 obtain ⟨hc,_⟩:=bcellS hb
 exact ⟨(hc _ (by rw [h.c0];rfl)).trans h.c0,(hc _ (by rw [h.c1];rfl)).trans h.c1⟩
theorem Pai.make (W:World) (x0 x1:Int) (t:TypeId):Pai (W.alloc (.cells #[.int .i8 x0,.int .i8 x1] t)) W.heap.size x0 x1:=⟨by go_simp,by go_simp⟩
end Go.Proofs.YtjmglmgokfcgoaaGreat
