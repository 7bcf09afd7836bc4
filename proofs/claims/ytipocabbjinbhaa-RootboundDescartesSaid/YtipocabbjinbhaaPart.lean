/- The walks of squarefree.quotient and of squarefree.Part at x^2 - 2. -/
import Derived.Test.YtipocabbjinbhaaIdP
import Derived.Test.YtipocabbjinbhaaGti
import Derived.Test.YtipocabbjinbhaaDer
import Derived.Test.YtipocabbjinbhaaAwl
namespace Go.Proofs.Ytipocabbjinbhaa
open Go.RowKit
def w2:List Int:=[-2,0,1]
end Go.Proofs.Ytipocabbjinbhaa
