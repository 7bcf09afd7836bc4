/- The sequence of remainders of unidiv divides exactly, and its numbers are not too large. -/
import Derived.Test.YtjmglmgokfcgoaaGreatFed
import Derived.Test.YtjmglmgokfcgoaaGreatGti
namespace Go.Proofs.YtjmglmgokfcgoaaGreat
abbrev Row:=Nat→Int
section
variable {F:List Row→Int}
end
def sh (i:Nat) (f:Row):Row:=fun t=>if t<i then 0 else f (t-i)
def rows:Nat→Row→List Row
 | 0,_=>[]
 | a+1,f=>sh a f :: rows a f
section
variable {f g a b:Row} {m n na nb:Nat} {C s:Int}
end
end Go.Proofs.YtjmglmgokfcgoaaGreat
namespace Go.Proofs.YtjmglmgokfcgoaaGreat
abbrev fn (p:List Int):Row:=fun k=>p.getD k 0
def qs (q g:Row) (i t:Nat):Nat→Int
 | 0=>0
 | L+1=>qs q g i t L+q L*sh (i+L) g t
section
variable {f g:List Int} {m n G e N:Nat} {t:RS} {C:Int}
end
end Go.Proofs.YtjmglmgokfcgoaaGreat
