/-
  No cell of these rows narrows 'for every input' (looked for: loops, veiled, ifaces, maps, wideKeys, modest, calm, conditions, laid).
  DERIVED. THE GIVEN ROWS OF THIS SEAT. 3 by the template 'for every input the law returns true; each argument reads behind the call as it read before'; 0 by the template 'total and deterministic' (their statements: YtobcbjcnjpgipaaGreatTotals.lean).
  GIVEN WITH THE SEED: the statements are not yours to turn. If you find one false, say at which input.
  Laid BY PROGRAM, IN A SANDBOX (cutbox-rows.mjs): the forced cells as the released guide's own fill.sh prints them over the translation a785387c9f166774… (all of the seat's roots in one cut). By AI agents, Wed Nov 11 2026. No macro, syntax, notation, axiom, sorry.
-/
import Derived.Test.YtobcbjcnjpgipaaGreatChecked
import GoSem.Claim
import GoSem.ClaimJoined
import GoSem.ClaimMapViews
import Derived.JoinedTies
import Derived.KernelRfl
namespace Go.Proofs.YtobcbjcnjpgipaaGreat
/- THE CELL 'sum', in the pinned program and in every row, IS THE sha256 OF THE DUMP (.gsa) THAT YtobcbjcnjpgipaaGreatProg.lean LOADS. Nothing in Lean hashes anything: it is a label: what it is worth is what the hold of that sum in a sandbox is worth. -/
noncomputable def Tryz.pinned : Pinned := { name := "ytobcbjcnjpgipaagreat", sum := "a785387c9f166774dd0e8f595eafea9a02d69a2f1456dbffaca47acdbdac1b7e", checked := Tryz.checked }
namespace Rows
def none {H : Type} : Left H := { results := [], args := [] }

/-- 'cylinderlaw18.RefineSteps': WHATEVER THE INPUT: true; the input reads as it did. -/
def refineStepsSpec : ChangeSpec := { name := "refineSteps", fn := fun _ => fun
  | [d1, d2] => { results := [.lit (.bool true)], args := [d1, d2] }
  | _ => none }
def refineStepsRow : OpenClaim := { program := "ytobcbjcnjpgipaagreat", sum := "a785387c9f166774dd0e8f595eafea9a02d69a2f1456dbffaca47acdbdac1b7e", func := "cylinder/cylinderlaw18.RefineSteps", spec := "refineSteps", unfollowed := true, recurses := true, named := ["math/bits.overflowError"], apart := false }
def RefineStepsSaid : Prop := refineStepsRow.holds Tryz.pinned (OpenSpec.ofChange refineStepsSpec)

/-- ITS FALSE NEIGHBOUR: 'it returns false'. Refute it at one input. -/
def refineStepsWrong : ChangeSpec := { name := "refineSteps", fn := fun _ => fun
  | [d1, d2] => { results := [.lit (.bool false)], args := [d1, d2] }
  | _ => none }
def RefineStepsWrongFalsely : Prop := refineStepsRow.holds Tryz.pinned (OpenSpec.ofChange refineStepsWrong)

/-- 'cylinderlaw17.DescartesRoots': WHATEVER THE INPUT: true; the input reads as it did. -/
def descartesRootsSpec : ChangeSpec := { name := "descartesRoots", fn := fun _ => fun
  | [d] => { results := [.lit (.bool true)], args := [d] }
  | _ => none }
def descartesRootsRow : OpenClaim := { program := "ytobcbjcnjpgipaagreat", sum := "a785387c9f166774dd0e8f595eafea9a02d69a2f1456dbffaca47acdbdac1b7e", func := "cylinder/cylinderlaw17.DescartesRoots", spec := "descartesRoots", unfollowed := true, recurses := true, named := ["math/bits.overflowError"], apart := false }
def DescartesRootsSaid : Prop := descartesRootsRow.holds Tryz.pinned (OpenSpec.ofChange descartesRootsSpec)

/-- ITS FALSE NEIGHBOUR: 'it returns false'. Refute it at one input. -/
def descartesRootsWrong : ChangeSpec := { name := "descartesRoots", fn := fun _ => fun
  | [d] => { results := [.lit (.bool false)], args := [d] }
  | _ => none }
def DescartesRootsWrongFalsely : Prop := descartesRootsRow.holds Tryz.pinned (OpenSpec.ofChange descartesRootsWrong)

/-- 'cylinderlaw18.RefineNarrows': WHATEVER THE INPUT: true; the input reads as it did. -/
def refineNarrowsSpec : ChangeSpec := { name := "refineNarrows", fn := fun _ => fun
  | [d1, d2, d3] => { results := [.lit (.bool true)], args := [d1, d2, d3] }
  | _ => none }
def refineNarrowsRow : OpenClaim := { program := "ytobcbjcnjpgipaagreat", sum := "a785387c9f166774dd0e8f595eafea9a02d69a2f1456dbffaca47acdbdac1b7e", func := "cylinder/cylinderlaw18.RefineNarrows", spec := "refineNarrows", unfollowed := true, recurses := true, named := ["math/bits.overflowError"], apart := false }
def RefineNarrowsSaid : Prop := refineNarrowsRow.holds Tryz.pinned (OpenSpec.ofChange refineNarrowsSpec)

/-- ITS FALSE NEIGHBOUR: 'it returns false'. Refute it at one input. -/
def refineNarrowsWrong : ChangeSpec := { name := "refineNarrows", fn := fun _ => fun
  | [d1, d2, d3] => { results := [.lit (.bool false)], args := [d1, d2, d3] }
  | _ => none }
def RefineNarrowsWrongFalsely : Prop := refineNarrowsRow.holds Tryz.pinned (OpenSpec.ofChange refineNarrowsWrong)

/- THE SECOND FORM. 'bulk': how many values and letters a reading holds, each counted each time it is reached (what is shared counts as often as it is met; a slice's spare places count too). A statement '..UptoSaid' is the law's where the arguments, and the package variables that the reading takes, are together of bulk at most 1048576: NARROWER than '..Said'. Prove '..Said' where nothing that the law and all that it calls make is longer than what came in: it says more and counts as full. Else prove '..UptoSaid'. A law counts once. -/
mutual
def uptoBulk {H : Type} : DataW H → Nat
  | .lit (.string bytes) => bytes.length + 1
  | .lit _ => 1
  | .nil => 1
  | .ptr d => uptoBulk d + 1
  | .slice elems spare => uptoBulkAll elems + uptoBulkAll spare + 1
  | .agg parts => uptoBulkAll parts + 1
  | .iface _ d => uptoBulk d + 1
  | .map entries => uptoBulkEntries entries + 1
  | .held _ => 1
def uptoBulkAll {H : Type} : List (DataW H) → Nat
  | [] => 0
  | d :: r => uptoBulk d + uptoBulkAll r
def uptoBulkEntries {H : Type} : List (Lit × DataW H) → Nat
  | [] => 0
  | x :: r => uptoBulkEntry x + uptoBulkEntries r
def uptoBulkEntry {H : Type} : Lit × DataW H → Nat
  | (.string bytes, d) => bytes.length + uptoBulk d + 1
  | (_, d) => uptoBulk d + 1
 end
def uptoSmall : (H : Type) → List (DataW H) → Bool := fun _ ds => decide (uptoBulkAll ds ≤ 1048576)
def OpenSpec.upto (s : _root_.Go.ChangeSpec) : _root_.Go.OpenSpec := { _root_.Go.OpenSpec.ofChange s with cond := some uptoSmall }

/-- 'cylinderlaw18.RefineSteps', WHERE WHAT IT READS IS OF BULK AT MOST 1048576: true; the input reads as it did. -/
def refineStepsUptoRow : OpenClaim := { program := "ytobcbjcnjpgipaagreat", sum := "a785387c9f166774dd0e8f595eafea9a02d69a2f1456dbffaca47acdbdac1b7e", func := "cylinder/cylinderlaw18.RefineSteps", spec := "refineSteps", unfollowed := true, recurses := true, named := ["math/bits.overflowError"], apart := false, narrowed := true }
def RefineStepsUptoSaid : Prop := refineStepsUptoRow.holds Tryz.pinned (OpenSpec.upto refineStepsSpec)

/-- 'cylinderlaw17.DescartesRoots', WHERE WHAT IT READS IS OF BULK AT MOST 1048576: true; the input reads as it did. -/
def descartesRootsUptoRow : OpenClaim := { program := "ytobcbjcnjpgipaagreat", sum := "a785387c9f166774dd0e8f595eafea9a02d69a2f1456dbffaca47acdbdac1b7e", func := "cylinder/cylinderlaw17.DescartesRoots", spec := "descartesRoots", unfollowed := true, recurses := true, named := ["math/bits.overflowError"], apart := false, narrowed := true }
def DescartesRootsUptoSaid : Prop := descartesRootsUptoRow.holds Tryz.pinned (OpenSpec.upto descartesRootsSpec)

/-- 'cylinderlaw18.RefineNarrows', WHERE WHAT IT READS IS OF BULK AT MOST 1048576: true; the input reads as it did. -/
def refineNarrowsUptoRow : OpenClaim := { program := "ytobcbjcnjpgipaagreat", sum := "a785387c9f166774dd0e8f595eafea9a02d69a2f1456dbffaca47acdbdac1b7e", func := "cylinder/cylinderlaw18.RefineNarrows", spec := "refineNarrows", unfollowed := true, recurses := true, named := ["math/bits.overflowError"], apart := false, narrowed := true }
def RefineNarrowsUptoSaid : Prop := refineNarrowsUptoRow.holds Tryz.pinned (OpenSpec.upto refineNarrowsSpec)

end Rows
end Go.Proofs.YtobcbjcnjpgipaaGreat
