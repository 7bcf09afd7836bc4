/- The walk of sturm.Query at polynomials that are not too large, f other than 0 at both ends. -/
import Derived.Test.YtbfddopopajgaaaGreatSqw
namespace Go.Proofs.YtbfddopopajgaaaGreat
open Go.RowKit
def dgm (f g:List Int):List Int:=polymul (ptrim (pder f)) (ptrim g)
def nq (f g:List Int):Int:=pline 12 f (dgm f g)
end Go.Proofs.YtbfddopopajgaaaGreat
namespace Go.Proofs.YtbfddopopajgaaaGreat
open Go.RowKit
structure G6 (g:List Int):Prop where
 len:g.length≤6
 b:∀ j,(g.getD j 0).natAbs≤BB
theorem G6.plen {g:List Int} (h:G6 g):plen g≤6:=by have:=plen_le g;have:=h.len;omega
theorem G6.fit {g:List Int} (h:G6 g):FitP g:=fun j=>Nat.lt_of_le_of_lt (h.b j) (by rw [show BB=BB^1 from (Nat.pow_one _).symm,← Nat.pow_mul,Nat.one_mul];exact Nat.pow_lt_pow_right (by rw [BB_eq];decide) (by rw [FW_eq];decide))
end Go.Proofs.YtbfddopopajgaaaGreat
namespace Go.Proofs.YtbfddopopajgaaaGreat
open Go.RowKit
end Go.Proofs.YtbfddopopajgaaaGreat
