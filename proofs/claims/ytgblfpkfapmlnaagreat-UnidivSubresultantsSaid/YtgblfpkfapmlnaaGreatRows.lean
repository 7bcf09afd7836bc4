/-
  No cell of these rows narrows 'for every input' (looked for: loops, veiled, ifaces, maps, wideKeys, modest, calm, conditions, laid).
  DERIVED. THE GIVEN ROWS OF THIS SEAT. 3 by the template 'for every input the law returns true; each argument reads behind the call as it read before'; 0 by the template 'total and deterministic' (their statements: YtgblfpkfapmlnaaGreatTotals.lean).
  GIVEN WITH THE SEED: the statements are not yours to turn. If you find one false, say at which input.
  Laid BY PROGRAM, IN A SANDBOX (cutbox-rows.mjs): the forced cells as the released guide's own fill.sh prints them over the translation 254c8b8f3ec1a62b… (all of the seat's roots in one cut). By AI agents, Wed Nov 11 2026. No macro, syntax, notation, axiom, sorry.
-/
import Derived.Test.YtgblfpkfapmlnaaGreatChecked
import GoSem.Claim
import GoSem.ClaimJoined
import GoSem.ClaimMapViews
import Derived.JoinedTies
import Derived.KernelRfl
namespace Go.Proofs.YtgblfpkfapmlnaaGreat
/- THE CELL 'sum', in the pinned program and in every row, IS THE sha256 OF THE DUMP (.gsa) THAT YtgblfpkfapmlnaaGreatProg.lean LOADS. Nothing in Lean hashes anything: it is a label: what it is worth is what the hold of that sum in a sandbox is worth. -/
noncomputable def Tryz.pinned : Pinned := { name := "ytgblfpkfapmlnaagreat", sum := "254c8b8f3ec1a62bf98fb17909349478282388496a9cd6d35c4932e1f4d7221e", checked := Tryz.checked }
namespace Rows
def none {H : Type} : Left H := { results := [], args := [] }

/-- 'cylinderlaw09.UnidivSubresultants': WHATEVER THE INPUT: true; the input reads as it did. -/
def unidivSubresultantsSpec : ChangeSpec := { name := "unidivSubresultants", fn := fun _ => fun
  | [d1, d2] => { results := [.lit (.bool true)], args := [d1, d2] }
  | _ => none }
def unidivSubresultantsRow : OpenClaim := { program := "ytgblfpkfapmlnaagreat", sum := "254c8b8f3ec1a62bf98fb17909349478282388496a9cd6d35c4932e1f4d7221e", func := "cylinder/cylinderlaw09.UnidivSubresultants", spec := "unidivSubresultants", unfollowed := true, recurses := true, named := ["math/bits.overflowError"], apart := false }
def UnidivSubresultantsSaid : Prop := unidivSubresultantsRow.holds Tryz.pinned (OpenSpec.ofChange unidivSubresultantsSpec)

/-- ITS FALSE NEIGHBOUR: 'it returns false'. Refute it at one input. -/
def unidivSubresultantsWrong : ChangeSpec := { name := "unidivSubresultants", fn := fun _ => fun
  | [d1, d2] => { results := [.lit (.bool false)], args := [d1, d2] }
  | _ => none }
def UnidivSubresultantsWrongFalsely : Prop := unidivSubresultantsRow.holds Tryz.pinned (OpenSpec.ofChange unidivSubresultantsWrong)

/-- 'cylinderlaw09.UnidivExact': WHATEVER THE INPUT: true; the input reads as it did. -/
def unidivExactSpec : ChangeSpec := { name := "unidivExact", fn := fun _ => fun
  | [d1, d2, d3] => { results := [.lit (.bool true)], args := [d1, d2, d3] }
  | _ => none }
def unidivExactRow : OpenClaim := { program := "ytgblfpkfapmlnaagreat", sum := "254c8b8f3ec1a62bf98fb17909349478282388496a9cd6d35c4932e1f4d7221e", func := "cylinder/cylinderlaw09.UnidivExact", spec := "unidivExact", unfollowed := true, recurses := true, named := ["math/bits.overflowError"], apart := false }
def UnidivExactSaid : Prop := unidivExactRow.holds Tryz.pinned (OpenSpec.ofChange unidivExactSpec)

/-- ITS FALSE NEIGHBOUR: 'it returns false'. Refute it at one input. -/
def unidivExactWrong : ChangeSpec := { name := "unidivExact", fn := fun _ => fun
  | [d1, d2, d3] => { results := [.lit (.bool false)], args := [d1, d2, d3] }
  | _ => none }
def UnidivExactWrongFalsely : Prop := unidivExactRow.holds Tryz.pinned (OpenSpec.ofChange unidivExactWrong)

/-- 'cylinderlaw09.UnidivGcd': WHATEVER THE INPUT: true; the input reads as it did. -/
def unidivGcdSpec : ChangeSpec := { name := "unidivGcd", fn := fun _ => fun
  | [d1, d2] => { results := [.lit (.bool true)], args := [d1, d2] }
  | _ => none }
def unidivGcdRow : OpenClaim := { program := "ytgblfpkfapmlnaagreat", sum := "254c8b8f3ec1a62bf98fb17909349478282388496a9cd6d35c4932e1f4d7221e", func := "cylinder/cylinderlaw09.UnidivGcd", spec := "unidivGcd", unfollowed := true, recurses := true, named := ["math/bits.overflowError"], apart := false }
def UnidivGcdSaid : Prop := unidivGcdRow.holds Tryz.pinned (OpenSpec.ofChange unidivGcdSpec)

/-- ITS FALSE NEIGHBOUR: 'it returns false'. Refute it at one input. -/
def unidivGcdWrong : ChangeSpec := { name := "unidivGcd", fn := fun _ => fun
  | [d1, d2] => { results := [.lit (.bool false)], args := [d1, d2] }
  | _ => none }
def UnidivGcdWrongFalsely : Prop := unidivGcdRow.holds Tryz.pinned (OpenSpec.ofChange unidivGcdWrong)

/- THE SECOND FORM. 'bulk': how many values and letters a reading holds, each counted each time it is reached (what is shared counts as often as it is met; a slice's spare places count too). A statement '..UptoSaid' is the law's where the arguments, and the package variables that the reading takes, are together of bulk at most 1048576: NARROWER than '..Said'. Prove '..Said' where nothing that the law and all that it calls make is longer than what came in: it says more and counts as full. Else prove '..UptoSaid'. A law counts once. -/
mutual
def uptoBulk {H : Type} : DataW H → Nat
  | .lit (.string bytes) => bytes.length + 1
  | .lit _ => 1
  | .nil => 1
  | .ptr d => uptoBulk d + 1
  | .slice elems spare => uptoBulkAll elems + uptoBulkAll spare + 1
  | .agg parts => uptoBulkAll parts + 1
  | .iface _ d => uptoBulk d + 1
  | .map entries => uptoBulkEntries entries + 1
  | .held _ => 1
def uptoBulkAll {H : Type} : List (DataW H) → Nat
  | [] => 0
  | d :: r => uptoBulk d + uptoBulkAll r
def uptoBulkEntries {H : Type} : List (Lit × DataW H) → Nat
  | [] => 0
  | x :: r => uptoBulkEntry x + uptoBulkEntries r
def uptoBulkEntry {H : Type} : Lit × DataW H → Nat
  | (.string bytes, d) => bytes.length + uptoBulk d + 1
  | (_, d) => uptoBulk d + 1
 end
def uptoSmall : (H : Type) → List (DataW H) → Bool := fun _ ds => decide (uptoBulkAll ds ≤ 1048576)
def OpenSpec.upto (s : _root_.Go.ChangeSpec) : _root_.Go.OpenSpec := { _root_.Go.OpenSpec.ofChange s with cond := some uptoSmall }

/-- 'cylinderlaw09.UnidivSubresultants', WHERE WHAT IT READS IS OF BULK AT MOST 1048576: true; the input reads as it did. -/
def unidivSubresultantsUptoRow : OpenClaim := { program := "ytgblfpkfapmlnaagreat", sum := "254c8b8f3ec1a62bf98fb17909349478282388496a9cd6d35c4932e1f4d7221e", func := "cylinder/cylinderlaw09.UnidivSubresultants", spec := "unidivSubresultants", unfollowed := true, recurses := true, named := ["math/bits.overflowError"], apart := false, narrowed := true }
def UnidivSubresultantsUptoSaid : Prop := unidivSubresultantsUptoRow.holds Tryz.pinned (OpenSpec.upto unidivSubresultantsSpec)

/-- 'cylinderlaw09.UnidivExact', WHERE WHAT IT READS IS OF BULK AT MOST 1048576: true; the input reads as it did. -/
def unidivExactUptoRow : OpenClaim := { program := "ytgblfpkfapmlnaagreat", sum := "254c8b8f3ec1a62bf98fb17909349478282388496a9cd6d35c4932e1f4d7221e", func := "cylinder/cylinderlaw09.UnidivExact", spec := "unidivExact", unfollowed := true, recurses := true, named := ["math/bits.overflowError"], apart := false, narrowed := true }
def UnidivExactUptoSaid : Prop := unidivExactUptoRow.holds Tryz.pinned (OpenSpec.upto unidivExactSpec)

/-- 'cylinderlaw09.UnidivGcd', WHERE WHAT IT READS IS OF BULK AT MOST 1048576: true; the input reads as it did. -/
def unidivGcdUptoRow : OpenClaim := { program := "ytgblfpkfapmlnaagreat", sum := "254c8b8f3ec1a62bf98fb17909349478282388496a9cd6d35c4932e1f4d7221e", func := "cylinder/cylinderlaw09.UnidivGcd", spec := "unidivGcd", unfollowed := true, recurses := true, named := ["math/bits.overflowError"], apart := false, narrowed := true }
def UnidivGcdUptoSaid : Prop := unidivGcdUptoRow.holds Tryz.pinned (OpenSpec.upto unidivGcdSpec)

end Rows
end Go.Proofs.YtgblfpkfapmlnaaGreat
