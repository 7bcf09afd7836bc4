/- The law SturmAdds, plain: counts and queries add up over neighbouring intervals; the signs at the roots; the roots below a number. No program. -/
import Derived.Test.YtjmglmgokfcgoaaGreatTkr
namespace Go.Proofs.YtjmglmgokfcgoaaGreat
open Go.RowKit
theorem lin2_plen {z q:Int} (hq:0<q):plen [-z,q]=2:=plen_eq _ 1 (by have:=plen_le [-z,q];simpa using this) (by show q≠0;omega)
theorem lin2_at {z q:Int} (hq:0<q):sgp [-z,q] (Pt.of ((z:Rat) / (q:Rat)))=0:=by
 unfold sgp
 rw [sgf_of (lp_pv _)]
 have hq':(0:Rat)<(q:Rat):=by exact_mod_cast hq
 have e:pv [-z,q] ((z:Rat) / (q:Rat))=0:=by
  show ((-z:Int):Rat)+(z:Rat) / (q:Rat)*(((q:Int):Rat)+(z:Rat) / (q:Rat)*0)=0
  rw [Rat.mul_zero,Rat.add_zero,Rat.intCast_neg,Rat.div_def]
  generalize (z:Rat)=u at *
  generalize (q:Rat)=v at *
  grind
 rw [e]
 rfl
theorem lin2_root {z q:Int} (hq:0<q) (x:Pt):sgp [-z,q] x=0↔x=Pt.of ((z:Rat) / (q:Rat)):=by
 constructor
 ·intro h
  have h0:=lin2_at (z:=z) hq
  have hp:=lin2_plen (z:=z) hq
  rcases Pt.tri x (Pt.of ((z:Rat) / (q:Rat))) with c | c | c
  ·have:=rts_le 1 _ hp [x,Pt.of ((z:Rat) / (q:Rat))] (by simp [c]) (by intro y hy;simp at hy;rcases hy with rfl | rfl<;>assumption)
   simp at this
  ·exact c
  ·have:=rts_le 1 _ hp [Pt.of ((z:Rat) / (q:Rat)),x] (by simp [c]) (by intro y hy;simp at hy;rcases hy with rfl | rfl<;>assumption)
   simp at this
 ·rintro rfl;exact lin2_at hq
end Go.Proofs.YtjmglmgokfcgoaaGreat
namespace Go.Proofs.YtjmglmgokfcgoaaGreat
open Go.RowKit
section
variable {f g:List Int} {za zb zc:Int} {qa qb qc:Nat}
end
end Go.Proofs.YtjmglmgokfcgoaaGreat
