/- The walks of the reference for layer 14: abs, Cauchy, Log, Reversed. -/
import Derived.Test.YtccapbajbniknaaIrow
namespace Go.Proofs.Ytccapbajbniknaa
open Go.RowKit
end Go.Proofs.Ytccapbajbniknaa
