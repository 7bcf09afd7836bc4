/- The walk of unipoly.Reverse. -/
import Derived.Test.YtccapbajbniknaaBits
namespace Go.Proofs.Ytccapbajbniknaa
open Go.RowKit
end Go.Proofs.Ytccapbajbniknaa
