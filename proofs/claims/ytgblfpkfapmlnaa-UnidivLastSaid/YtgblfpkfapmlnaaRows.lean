/-
  No cell of these rows narrows 'for every input' (looked for: loops, veiled, ifaces, maps, wideKeys, modest, calm, conditions, laid).
  DERIVED. THE GIVEN ROWS OF THIS SEAT. 6 by the template 'for every input the law returns true; each argument reads behind the call as it read before'; 0 by the template 'total and deterministic' (their statements: YtgblfpkfapmlnaaTotals.lean).
  GIVEN WITH THE SEED: the statements are not yours to turn. If you find one false, say at which input.
  Laid BY PROGRAM, IN A SANDBOX (cutbox-rows.mjs): the forced cells as the released guide's own fill.sh prints them over the translation 62677fa8fdde56e4… (all of the seat's roots in one cut). By AI agents, Wed Nov 11 2026. No macro, syntax, notation, axiom, sorry.
-/
import Derived.Test.YtgblfpkfapmlnaaChecked
import GoSem.Claim
import GoSem.ClaimJoined
import GoSem.ClaimMapViews
import Derived.JoinedTies
import Derived.KernelRfl
namespace Go.Proofs.Ytgblfpkfapmlnaa
/- THE CELL 'sum', in the pinned program and in every row, IS THE sha256 OF THE DUMP (.gsa) THAT YtgblfpkfapmlnaaProg.lean LOADS. Nothing in Lean hashes anything: it is a label: what it is worth is what the hold of that sum in a sandbox is worth. -/
noncomputable def Try.pinned : Pinned := { name := "ytgblfpkfapmlnaa", sum := "62677fa8fdde56e4a7403c368902ced1d95bf251453119ba6e05d3626ca54925", checked := Try.checked }
namespace Rows
def none {H : Type} : Left H := { results := [], args := [] }

/-- 'cylinderlaw09.UnidivPseudo': WHATEVER THE INPUT: true; the input reads as it did. -/
def unidivPseudoSpec : ChangeSpec := { name := "unidivPseudo", fn := fun _ => fun
  | [d1, d2] => { results := [.lit (.bool true)], args := [d1, d2] }
  | _ => none }
def unidivPseudoRow : OpenClaim := { program := "ytgblfpkfapmlnaa", sum := "62677fa8fdde56e4a7403c368902ced1d95bf251453119ba6e05d3626ca54925", func := "cylinder/cylinderlaw09.UnidivPseudo", spec := "unidivPseudo", unfollowed := true, recurses := true, named := ["math/bits.overflowError"], apart := false }
def UnidivPseudoSaid : Prop := unidivPseudoRow.holds Try.pinned (OpenSpec.ofChange unidivPseudoSpec)

/-- ITS FALSE NEIGHBOUR: 'it returns false'. Refute it at one input. -/
def unidivPseudoWrong : ChangeSpec := { name := "unidivPseudo", fn := fun _ => fun
  | [d1, d2] => { results := [.lit (.bool false)], args := [d1, d2] }
  | _ => none }
def UnidivPseudoWrongFalsely : Prop := unidivPseudoRow.holds Try.pinned (OpenSpec.ofChange unidivPseudoWrong)

/-- 'cylinderlaw09.UnidivContent': WHATEVER THE INPUT: true; the input reads as it did. -/
def unidivContentSpec : ChangeSpec := { name := "unidivContent", fn := fun _ => fun
  | [d1, d2] => { results := [.lit (.bool true)], args := [d1, d2] }
  | _ => none }
def unidivContentRow : OpenClaim := { program := "ytgblfpkfapmlnaa", sum := "62677fa8fdde56e4a7403c368902ced1d95bf251453119ba6e05d3626ca54925", func := "cylinder/cylinderlaw09.UnidivContent", spec := "unidivContent", unfollowed := true, recurses := true, named := ["math/bits.overflowError"], apart := false }
def UnidivContentSaid : Prop := unidivContentRow.holds Try.pinned (OpenSpec.ofChange unidivContentSpec)

/-- ITS FALSE NEIGHBOUR: 'it returns false'. Refute it at one input. -/
def unidivContentWrong : ChangeSpec := { name := "unidivContent", fn := fun _ => fun
  | [d1, d2] => { results := [.lit (.bool false)], args := [d1, d2] }
  | _ => none }
def UnidivContentWrongFalsely : Prop := unidivContentRow.holds Try.pinned (OpenSpec.ofChange unidivContentWrong)

/-- 'cylinderlaw09.UnidivCommon': WHATEVER THE INPUT: true; the input reads as it did. -/
def unidivCommonSpec : ChangeSpec := { name := "unidivCommon", fn := fun _ => fun
  | [d1, d2, d3] => { results := [.lit (.bool true)], args := [d1, d2, d3] }
  | _ => none }
def unidivCommonRow : OpenClaim := { program := "ytgblfpkfapmlnaa", sum := "62677fa8fdde56e4a7403c368902ced1d95bf251453119ba6e05d3626ca54925", func := "cylinder/cylinderlaw09.UnidivCommon", spec := "unidivCommon", unfollowed := true, recurses := true, named := ["math/bits.overflowError"], apart := false }
def UnidivCommonSaid : Prop := unidivCommonRow.holds Try.pinned (OpenSpec.ofChange unidivCommonSpec)

/-- ITS FALSE NEIGHBOUR: 'it returns false'. Refute it at one input. -/
def unidivCommonWrong : ChangeSpec := { name := "unidivCommon", fn := fun _ => fun
  | [d1, d2, d3] => { results := [.lit (.bool false)], args := [d1, d2, d3] }
  | _ => none }
def UnidivCommonWrongFalsely : Prop := unidivCommonRow.holds Try.pinned (OpenSpec.ofChange unidivCommonWrong)

/-- 'cylinderlaw09.UnidivLast': WHATEVER THE INPUT: true; the input reads as it did. -/
def unidivLastSpec : ChangeSpec := { name := "unidivLast", fn := fun _ => fun
  | [d1, d2] => { results := [.lit (.bool true)], args := [d1, d2] }
  | _ => none }
def unidivLastRow : OpenClaim := { program := "ytgblfpkfapmlnaa", sum := "62677fa8fdde56e4a7403c368902ced1d95bf251453119ba6e05d3626ca54925", func := "cylinder/cylinderlaw09.UnidivLast", spec := "unidivLast", unfollowed := true, recurses := true, named := ["math/bits.overflowError"], apart := false }
def UnidivLastSaid : Prop := unidivLastRow.holds Try.pinned (OpenSpec.ofChange unidivLastSpec)

/-- ITS FALSE NEIGHBOUR: 'it returns false'. Refute it at one input. -/
def unidivLastWrong : ChangeSpec := { name := "unidivLast", fn := fun _ => fun
  | [d1, d2] => { results := [.lit (.bool false)], args := [d1, d2] }
  | _ => none }
def UnidivLastWrongFalsely : Prop := unidivLastRow.holds Try.pinned (OpenSpec.ofChange unidivLastWrong)

/-- 'cylinderlaw09.UnidivFactors': WHATEVER THE INPUT: true; the input reads as it did. -/
def unidivFactorsSpec : ChangeSpec := { name := "unidivFactors", fn := fun _ => fun
  | [d1, d2] => { results := [.lit (.bool true)], args := [d1, d2] }
  | _ => none }
def unidivFactorsRow : OpenClaim := { program := "ytgblfpkfapmlnaa", sum := "62677fa8fdde56e4a7403c368902ced1d95bf251453119ba6e05d3626ca54925", func := "cylinder/cylinderlaw09.UnidivFactors", spec := "unidivFactors", unfollowed := true, recurses := true, named := ["math/bits.overflowError"], apart := false }
def UnidivFactorsSaid : Prop := unidivFactorsRow.holds Try.pinned (OpenSpec.ofChange unidivFactorsSpec)

/-- ITS FALSE NEIGHBOUR: 'it returns false'. Refute it at one input. -/
def unidivFactorsWrong : ChangeSpec := { name := "unidivFactors", fn := fun _ => fun
  | [d1, d2] => { results := [.lit (.bool false)], args := [d1, d2] }
  | _ => none }
def UnidivFactorsWrongFalsely : Prop := unidivFactorsRow.holds Try.pinned (OpenSpec.ofChange unidivFactorsWrong)

/-- 'cylinderlaw09.UnidivXgcd': WHATEVER THE INPUT: true; the input reads as it did. -/
def unidivXgcdSpec : ChangeSpec := { name := "unidivXgcd", fn := fun _ => fun
  | [d1, d2] => { results := [.lit (.bool true)], args := [d1, d2] }
  | _ => none }
def unidivXgcdRow : OpenClaim := { program := "ytgblfpkfapmlnaa", sum := "62677fa8fdde56e4a7403c368902ced1d95bf251453119ba6e05d3626ca54925", func := "cylinder/cylinderlaw09.UnidivXgcd", spec := "unidivXgcd", unfollowed := true, recurses := true, named := ["math/bits.overflowError"], apart := false }
def UnidivXgcdSaid : Prop := unidivXgcdRow.holds Try.pinned (OpenSpec.ofChange unidivXgcdSpec)

/-- ITS FALSE NEIGHBOUR: 'it returns false'. Refute it at one input. -/
def unidivXgcdWrong : ChangeSpec := { name := "unidivXgcd", fn := fun _ => fun
  | [d1, d2] => { results := [.lit (.bool false)], args := [d1, d2] }
  | _ => none }
def UnidivXgcdWrongFalsely : Prop := unidivXgcdRow.holds Try.pinned (OpenSpec.ofChange unidivXgcdWrong)

/- THE SECOND FORM. 'bulk': how many values and letters a reading holds, each counted each time it is reached (what is shared counts as often as it is met; a slice's spare places count too). A statement '..UptoSaid' is the law's where the arguments, and the package variables that the reading takes, are together of bulk at most 1048576: NARROWER than '..Said'. Prove '..Said' where nothing that the law and all that it calls make is longer than what came in: it says more and counts as full. Else prove '..UptoSaid'. A law counts once. -/
mutual
def uptoBulk {H : Type} : DataW H → Nat
  | .lit (.string bytes) => bytes.length + 1
  | .lit _ => 1
  | .nil => 1
  | .ptr d => uptoBulk d + 1
  | .slice elems spare => uptoBulkAll elems + uptoBulkAll spare + 1
  | .agg parts => uptoBulkAll parts + 1
  | .iface _ d => uptoBulk d + 1
  | .map entries => uptoBulkEntries entries + 1
  | .held _ => 1
def uptoBulkAll {H : Type} : List (DataW H) → Nat
  | [] => 0
  | d :: r => uptoBulk d + uptoBulkAll r
def uptoBulkEntries {H : Type} : List (Lit × DataW H) → Nat
  | [] => 0
  | x :: r => uptoBulkEntry x + uptoBulkEntries r
def uptoBulkEntry {H : Type} : Lit × DataW H → Nat
  | (.string bytes, d) => bytes.length + uptoBulk d + 1
  | (_, d) => uptoBulk d + 1
 end
def uptoSmall : (H : Type) → List (DataW H) → Bool := fun _ ds => decide (uptoBulkAll ds ≤ 1048576)
def OpenSpec.upto (s : _root_.Go.ChangeSpec) : _root_.Go.OpenSpec := { _root_.Go.OpenSpec.ofChange s with cond := some uptoSmall }

/-- 'cylinderlaw09.UnidivPseudo', WHERE WHAT IT READS IS OF BULK AT MOST 1048576: true; the input reads as it did. -/
def unidivPseudoUptoRow : OpenClaim := { program := "ytgblfpkfapmlnaa", sum := "62677fa8fdde56e4a7403c368902ced1d95bf251453119ba6e05d3626ca54925", func := "cylinder/cylinderlaw09.UnidivPseudo", spec := "unidivPseudo", unfollowed := true, recurses := true, named := ["math/bits.overflowError"], apart := false, narrowed := true }
def UnidivPseudoUptoSaid : Prop := unidivPseudoUptoRow.holds Try.pinned (OpenSpec.upto unidivPseudoSpec)

/-- 'cylinderlaw09.UnidivContent', WHERE WHAT IT READS IS OF BULK AT MOST 1048576: true; the input reads as it did. -/
def unidivContentUptoRow : OpenClaim := { program := "ytgblfpkfapmlnaa", sum := "62677fa8fdde56e4a7403c368902ced1d95bf251453119ba6e05d3626ca54925", func := "cylinder/cylinderlaw09.UnidivContent", spec := "unidivContent", unfollowed := true, recurses := true, named := ["math/bits.overflowError"], apart := false, narrowed := true }
def UnidivContentUptoSaid : Prop := unidivContentUptoRow.holds Try.pinned (OpenSpec.upto unidivContentSpec)

/-- 'cylinderlaw09.UnidivCommon', WHERE WHAT IT READS IS OF BULK AT MOST 1048576: true; the input reads as it did. -/
def unidivCommonUptoRow : OpenClaim := { program := "ytgblfpkfapmlnaa", sum := "62677fa8fdde56e4a7403c368902ced1d95bf251453119ba6e05d3626ca54925", func := "cylinder/cylinderlaw09.UnidivCommon", spec := "unidivCommon", unfollowed := true, recurses := true, named := ["math/bits.overflowError"], apart := false, narrowed := true }
def UnidivCommonUptoSaid : Prop := unidivCommonUptoRow.holds Try.pinned (OpenSpec.upto unidivCommonSpec)

/-- 'cylinderlaw09.UnidivLast', WHERE WHAT IT READS IS OF BULK AT MOST 1048576: true; the input reads as it did. -/
def unidivLastUptoRow : OpenClaim := { program := "ytgblfpkfapmlnaa", sum := "62677fa8fdde56e4a7403c368902ced1d95bf251453119ba6e05d3626ca54925", func := "cylinder/cylinderlaw09.UnidivLast", spec := "unidivLast", unfollowed := true, recurses := true, named := ["math/bits.overflowError"], apart := false, narrowed := true }
def UnidivLastUptoSaid : Prop := unidivLastUptoRow.holds Try.pinned (OpenSpec.upto unidivLastSpec)

/-- 'cylinderlaw09.UnidivFactors', WHERE WHAT IT READS IS OF BULK AT MOST 1048576: true; the input reads as it did. -/
def unidivFactorsUptoRow : OpenClaim := { program := "ytgblfpkfapmlnaa", sum := "62677fa8fdde56e4a7403c368902ced1d95bf251453119ba6e05d3626ca54925", func := "cylinder/cylinderlaw09.UnidivFactors", spec := "unidivFactors", unfollowed := true, recurses := true, named := ["math/bits.overflowError"], apart := false, narrowed := true }
def UnidivFactorsUptoSaid : Prop := unidivFactorsUptoRow.holds Try.pinned (OpenSpec.upto unidivFactorsSpec)

/-- 'cylinderlaw09.UnidivXgcd', WHERE WHAT IT READS IS OF BULK AT MOST 1048576: true; the input reads as it did. -/
def unidivXgcdUptoRow : OpenClaim := { program := "ytgblfpkfapmlnaa", sum := "62677fa8fdde56e4a7403c368902ced1d95bf251453119ba6e05d3626ca54925", func := "cylinder/cylinderlaw09.UnidivXgcd", spec := "unidivXgcd", unfollowed := true, recurses := true, named := ["math/bits.overflowError"], apart := false, narrowed := true }
def UnidivXgcdUptoSaid : Prop := unidivXgcdUptoRow.holds Try.pinned (OpenSpec.upto unidivXgcdSpec)

end Rows
end Go.Proofs.Ytgblfpkfapmlnaa
