/-
  No cell of these rows narrows 'for every input' (looked for: loops, veiled, ifaces, maps, wideKeys, modest, calm, conditions, laid).
  DERIVED. THE GIVEN ROWS OF THIS SEAT. 10 by the template 'for every input the law returns true; each argument reads behind the call as it read before'; 0 by the template 'total and deterministic' (their statements: YtjmglmgokfcgoaaGreatTotals.lean).
  GIVEN WITH THE SEED: the statements are not yours to turn. If you find one false, say at which input.
  Laid BY PROGRAM, IN A SANDBOX (cutbox-rows.mjs): the forced cells as the released guide's own fill.sh prints them over the translation aa366a3bdfc542be… (all of the seat's roots in one cut). By AI agents, Wed Nov 11 2026. No macro, syntax, notation, axiom, sorry.
-/
import Derived.Test.YtjmglmgokfcgoaaGreatChecked
import GoSem.Claim
import GoSem.ClaimJoined
import GoSem.ClaimMapViews
import Derived.JoinedTies
import Derived.KernelRfl
namespace Go.Proofs.YtjmglmgokfcgoaaGreat
/- THE CELL 'sum', in the pinned program and in every row, IS THE sha256 OF THE DUMP (.gsa) THAT YtjmglmgokfcgoaaGreatProg.lean LOADS. Nothing in Lean hashes anything: it is a label: what it is worth is what the hold of that sum in a sandbox is worth. -/
noncomputable def Tryz.pinned : Pinned := { name := "ytjmglmgokfcgoaagreat", sum := "aa366a3bdfc542be7378e4791502f04e83e851bea5020da3474ee2f7f92e4f3e", checked := Tryz.checked }
namespace Rows
def none {H : Type} : Left H := { results := [], args := [] }

/-- 'cylinderlaw14.RootboundSeparation': WHATEVER THE INPUT: true; the input reads as it did. -/
def rootboundSeparationSpec : ChangeSpec := { name := "rootboundSeparation", fn := fun _ => fun
  | [d] => { results := [.lit (.bool true)], args := [d] }
  | _ => none }
def rootboundSeparationRow : OpenClaim := { program := "ytjmglmgokfcgoaagreat", sum := "aa366a3bdfc542be7378e4791502f04e83e851bea5020da3474ee2f7f92e4f3e", func := "cylinder/cylinderlaw14.RootboundSeparation", spec := "rootboundSeparation", unfollowed := true, recurses := true, named := ["math/bits.overflowError"], apart := false }
def RootboundSeparationSaid : Prop := rootboundSeparationRow.holds Tryz.pinned (OpenSpec.ofChange rootboundSeparationSpec)

/-- ITS FALSE NEIGHBOUR: 'it returns false'. Refute it at one input. -/
def rootboundSeparationWrong : ChangeSpec := { name := "rootboundSeparation", fn := fun _ => fun
  | [d] => { results := [.lit (.bool false)], args := [d] }
  | _ => none }
def RootboundSeparationWrongFalsely : Prop := rootboundSeparationRow.holds Tryz.pinned (OpenSpec.ofChange rootboundSeparationWrong)

/-- 'cylinderlaw16.IsolateCommon': WHATEVER THE INPUT: true; the input reads as it did. -/
def isolateCommonSpec : ChangeSpec := { name := "isolateCommon", fn := fun _ => fun
  | [d] => { results := [.lit (.bool true)], args := [d] }
  | _ => none }
def isolateCommonRow : OpenClaim := { program := "ytjmglmgokfcgoaagreat", sum := "aa366a3bdfc542be7378e4791502f04e83e851bea5020da3474ee2f7f92e4f3e", func := "cylinder/cylinderlaw16.IsolateCommon", spec := "isolateCommon", unfollowed := true, recurses := true, named := ["math/bits.overflowError"], apart := false }
def IsolateCommonSaid : Prop := isolateCommonRow.holds Tryz.pinned (OpenSpec.ofChange isolateCommonSpec)

/-- ITS FALSE NEIGHBOUR: 'it returns false'. Refute it at one input. -/
def isolateCommonWrong : ChangeSpec := { name := "isolateCommon", fn := fun _ => fun
  | [d] => { results := [.lit (.bool false)], args := [d] }
  | _ => none }
def IsolateCommonWrongFalsely : Prop := isolateCommonRow.holds Tryz.pinned (OpenSpec.ofChange isolateCommonWrong)

/-- 'cylinderlaw16.IsolateParts': WHATEVER THE INPUT: true; the input reads as it did. -/
def isolatePartsSpec : ChangeSpec := { name := "isolateParts", fn := fun _ => fun
  | [d1, d2] => { results := [.lit (.bool true)], args := [d1, d2] }
  | _ => none }
def isolatePartsRow : OpenClaim := { program := "ytjmglmgokfcgoaagreat", sum := "aa366a3bdfc542be7378e4791502f04e83e851bea5020da3474ee2f7f92e4f3e", func := "cylinder/cylinderlaw16.IsolateParts", spec := "isolateParts", unfollowed := true, recurses := true, named := ["math/bits.overflowError"], apart := false }
def IsolatePartsSaid : Prop := isolatePartsRow.holds Tryz.pinned (OpenSpec.ofChange isolatePartsSpec)

/-- ITS FALSE NEIGHBOUR: 'it returns false'. Refute it at one input. -/
def isolatePartsWrong : ChangeSpec := { name := "isolateParts", fn := fun _ => fun
  | [d1, d2] => { results := [.lit (.bool false)], args := [d1, d2] }
  | _ => none }
def IsolatePartsWrongFalsely : Prop := isolatePartsRow.holds Tryz.pinned (OpenSpec.ofChange isolatePartsWrong)

/-- 'cylinderlaw17.DescartesBounds': WHATEVER THE INPUT: true; the input reads as it did. -/
def descartesBoundsSpec : ChangeSpec := { name := "descartesBounds", fn := fun _ => fun
  | [d1, d2, d3] => { results := [.lit (.bool true)], args := [d1, d2, d3] }
  | _ => none }
def descartesBoundsRow : OpenClaim := { program := "ytjmglmgokfcgoaagreat", sum := "aa366a3bdfc542be7378e4791502f04e83e851bea5020da3474ee2f7f92e4f3e", func := "cylinder/cylinderlaw17.DescartesBounds", spec := "descartesBounds", unfollowed := true, recurses := true, named := ["math/bits.overflowError"], apart := false }
def DescartesBoundsSaid : Prop := descartesBoundsRow.holds Tryz.pinned (OpenSpec.ofChange descartesBoundsSpec)

/-- ITS FALSE NEIGHBOUR: 'it returns false'. Refute it at one input. -/
def descartesBoundsWrong : ChangeSpec := { name := "descartesBounds", fn := fun _ => fun
  | [d1, d2, d3] => { results := [.lit (.bool false)], args := [d1, d2, d3] }
  | _ => none }
def DescartesBoundsWrongFalsely : Prop := descartesBoundsRow.holds Tryz.pinned (OpenSpec.ofChange descartesBoundsWrong)

/-- 'cylinderlaw18.RefineSteps': WHATEVER THE INPUT: true; the input reads as it did. -/
def refineStepsSpec : ChangeSpec := { name := "refineSteps", fn := fun _ => fun
  | [d1, d2] => { results := [.lit (.bool true)], args := [d1, d2] }
  | _ => none }
def refineStepsRow : OpenClaim := { program := "ytjmglmgokfcgoaagreat", sum := "aa366a3bdfc542be7378e4791502f04e83e851bea5020da3474ee2f7f92e4f3e", func := "cylinder/cylinderlaw18.RefineSteps", spec := "refineSteps", unfollowed := true, recurses := true, named := ["math/bits.overflowError"], apart := false }
def RefineStepsSaid : Prop := refineStepsRow.holds Tryz.pinned (OpenSpec.ofChange refineStepsSpec)

/-- ITS FALSE NEIGHBOUR: 'it returns false'. Refute it at one input. -/
def refineStepsWrong : ChangeSpec := { name := "refineSteps", fn := fun _ => fun
  | [d1, d2] => { results := [.lit (.bool false)], args := [d1, d2] }
  | _ => none }
def RefineStepsWrongFalsely : Prop := refineStepsRow.holds Tryz.pinned (OpenSpec.ofChange refineStepsWrong)

/-- 'cylinderlaw17.DescartesRoots': WHATEVER THE INPUT: true; the input reads as it did. -/
def descartesRootsSpec : ChangeSpec := { name := "descartesRoots", fn := fun _ => fun
  | [d] => { results := [.lit (.bool true)], args := [d] }
  | _ => none }
def descartesRootsRow : OpenClaim := { program := "ytjmglmgokfcgoaagreat", sum := "aa366a3bdfc542be7378e4791502f04e83e851bea5020da3474ee2f7f92e4f3e", func := "cylinder/cylinderlaw17.DescartesRoots", spec := "descartesRoots", unfollowed := true, recurses := true, named := ["math/bits.overflowError"], apart := false }
def DescartesRootsSaid : Prop := descartesRootsRow.holds Tryz.pinned (OpenSpec.ofChange descartesRootsSpec)

/-- ITS FALSE NEIGHBOUR: 'it returns false'. Refute it at one input. -/
def descartesRootsWrong : ChangeSpec := { name := "descartesRoots", fn := fun _ => fun
  | [d] => { results := [.lit (.bool false)], args := [d] }
  | _ => none }
def DescartesRootsWrongFalsely : Prop := descartesRootsRow.holds Tryz.pinned (OpenSpec.ofChange descartesRootsWrong)

/-- 'cylinderlaw17.DescartesBernstein': WHATEVER THE INPUT: true; the input reads as it did. -/
def descartesBernsteinSpec : ChangeSpec := { name := "descartesBernstein", fn := fun _ => fun
  | [d1, d2, d3] => { results := [.lit (.bool true)], args := [d1, d2, d3] }
  | _ => none }
def descartesBernsteinRow : OpenClaim := { program := "ytjmglmgokfcgoaagreat", sum := "aa366a3bdfc542be7378e4791502f04e83e851bea5020da3474ee2f7f92e4f3e", func := "cylinder/cylinderlaw17.DescartesBernstein", spec := "descartesBernstein", unfollowed := true, recurses := true, named := ["math/bits.overflowError"], apart := false }
def DescartesBernsteinSaid : Prop := descartesBernsteinRow.holds Tryz.pinned (OpenSpec.ofChange descartesBernsteinSpec)

/-- ITS FALSE NEIGHBOUR: 'it returns false'. Refute it at one input. -/
def descartesBernsteinWrong : ChangeSpec := { name := "descartesBernstein", fn := fun _ => fun
  | [d1, d2, d3] => { results := [.lit (.bool false)], args := [d1, d2, d3] }
  | _ => none }
def DescartesBernsteinWrongFalsely : Prop := descartesBernsteinRow.holds Tryz.pinned (OpenSpec.ofChange descartesBernsteinWrong)

/-- 'cylinderlaw18.RefineNarrows': WHATEVER THE INPUT: true; the input reads as it did. -/
def refineNarrowsSpec : ChangeSpec := { name := "refineNarrows", fn := fun _ => fun
  | [d1, d2, d3] => { results := [.lit (.bool true)], args := [d1, d2, d3] }
  | _ => none }
def refineNarrowsRow : OpenClaim := { program := "ytjmglmgokfcgoaagreat", sum := "aa366a3bdfc542be7378e4791502f04e83e851bea5020da3474ee2f7f92e4f3e", func := "cylinder/cylinderlaw18.RefineNarrows", spec := "refineNarrows", unfollowed := true, recurses := true, named := ["math/bits.overflowError"], apart := false }
def RefineNarrowsSaid : Prop := refineNarrowsRow.holds Tryz.pinned (OpenSpec.ofChange refineNarrowsSpec)

/-- ITS FALSE NEIGHBOUR: 'it returns false'. Refute it at one input. -/
def refineNarrowsWrong : ChangeSpec := { name := "refineNarrows", fn := fun _ => fun
  | [d1, d2, d3] => { results := [.lit (.bool false)], args := [d1, d2, d3] }
  | _ => none }
def RefineNarrowsWrongFalsely : Prop := refineNarrowsRow.holds Tryz.pinned (OpenSpec.ofChange refineNarrowsWrong)

/-- 'cylinderlaw18.RefineFloors': WHATEVER THE INPUT: true; the input reads as it did. -/
def refineFloorsSpec : ChangeSpec := { name := "refineFloors", fn := fun _ => fun
  | [d1, d2, d3] => { results := [.lit (.bool true)], args := [d1, d2, d3] }
  | _ => none }
def refineFloorsRow : OpenClaim := { program := "ytjmglmgokfcgoaagreat", sum := "aa366a3bdfc542be7378e4791502f04e83e851bea5020da3474ee2f7f92e4f3e", func := "cylinder/cylinderlaw18.RefineFloors", spec := "refineFloors", inPlace := ["internal/abi.NoEscape", "internal/bytealg.MakeNoZero"], unfollowed := true, recurses := true, named := ["math/bits.overflowError"], apart := false }
def RefineFloorsSaid : Prop := refineFloorsRow.holds Tryz.pinned (OpenSpec.ofChange refineFloorsSpec)

/-- ITS FALSE NEIGHBOUR: 'it returns false'. Refute it at one input. -/
def refineFloorsWrong : ChangeSpec := { name := "refineFloors", fn := fun _ => fun
  | [d1, d2, d3] => { results := [.lit (.bool false)], args := [d1, d2, d3] }
  | _ => none }
def RefineFloorsWrongFalsely : Prop := refineFloorsRow.holds Tryz.pinned (OpenSpec.ofChange refineFloorsWrong)

/-- 'cylinderlaw18.RefineRejects': WHATEVER THE INPUT: true; the input reads as it did. -/
def refineRejectsSpec : ChangeSpec := { name := "refineRejects", fn := fun _ => fun
  | [d1, d2] => { results := [.lit (.bool true)], args := [d1, d2] }
  | _ => none }
def refineRejectsRow : OpenClaim := { program := "ytjmglmgokfcgoaagreat", sum := "aa366a3bdfc542be7378e4791502f04e83e851bea5020da3474ee2f7f92e4f3e", func := "cylinder/cylinderlaw18.RefineRejects", spec := "refineRejects", inPlace := ["internal/abi.NoEscape", "internal/bytealg.MakeNoZero"], unfollowed := true, recurses := true, named := ["math/bits.overflowError"], apart := false }
def RefineRejectsSaid : Prop := refineRejectsRow.holds Tryz.pinned (OpenSpec.ofChange refineRejectsSpec)

/-- ITS FALSE NEIGHBOUR: 'it returns false'. Refute it at one input. -/
def refineRejectsWrong : ChangeSpec := { name := "refineRejects", fn := fun _ => fun
  | [d1, d2] => { results := [.lit (.bool false)], args := [d1, d2] }
  | _ => none }
def RefineRejectsWrongFalsely : Prop := refineRejectsRow.holds Tryz.pinned (OpenSpec.ofChange refineRejectsWrong)

/- THE SECOND FORM. 'bulk': how many values and letters a reading holds, each counted each time it is reached (what is shared counts as often as it is met; a slice's spare places count too). A statement '..UptoSaid' is the law's where the arguments, and the package variables that the reading takes, are together of bulk at most 1048576: NARROWER than '..Said'. Prove '..Said' where nothing that the law and all that it calls make is longer than what came in: it says more and counts as full. Else prove '..UptoSaid'. A law counts once. -/
mutual
def uptoBulk {H : Type} : DataW H → Nat
  | .lit (.string bytes) => bytes.length + 1
  | .lit _ => 1
  | .nil => 1
  | .ptr d => uptoBulk d + 1
  | .slice elems spare => uptoBulkAll elems + uptoBulkAll spare + 1
  | .agg parts => uptoBulkAll parts + 1
  | .iface _ d => uptoBulk d + 1
  | .map entries => uptoBulkEntries entries + 1
  | .held _ => 1
def uptoBulkAll {H : Type} : List (DataW H) → Nat
  | [] => 0
  | d :: r => uptoBulk d + uptoBulkAll r
def uptoBulkEntries {H : Type} : List (Lit × DataW H) → Nat
  | [] => 0
  | x :: r => uptoBulkEntry x + uptoBulkEntries r
def uptoBulkEntry {H : Type} : Lit × DataW H → Nat
  | (.string bytes, d) => bytes.length + uptoBulk d + 1
  | (_, d) => uptoBulk d + 1
 end
def uptoSmall : (H : Type) → List (DataW H) → Bool := fun _ ds => decide (uptoBulkAll ds ≤ 1048576)
def OpenSpec.upto (s : _root_.Go.ChangeSpec) : _root_.Go.OpenSpec := { _root_.Go.OpenSpec.ofChange s with cond := some uptoSmall }

/-- 'cylinderlaw14.RootboundSeparation', WHERE WHAT IT READS IS OF BULK AT MOST 1048576: true; the input reads as it did. -/
def rootboundSeparationUptoRow : OpenClaim := { program := "ytjmglmgokfcgoaagreat", sum := "aa366a3bdfc542be7378e4791502f04e83e851bea5020da3474ee2f7f92e4f3e", func := "cylinder/cylinderlaw14.RootboundSeparation", spec := "rootboundSeparation", unfollowed := true, recurses := true, named := ["math/bits.overflowError"], apart := false, narrowed := true }
def RootboundSeparationUptoSaid : Prop := rootboundSeparationUptoRow.holds Tryz.pinned (OpenSpec.upto rootboundSeparationSpec)

/-- 'cylinderlaw16.IsolateCommon', WHERE WHAT IT READS IS OF BULK AT MOST 1048576: true; the input reads as it did. -/
def isolateCommonUptoRow : OpenClaim := { program := "ytjmglmgokfcgoaagreat", sum := "aa366a3bdfc542be7378e4791502f04e83e851bea5020da3474ee2f7f92e4f3e", func := "cylinder/cylinderlaw16.IsolateCommon", spec := "isolateCommon", unfollowed := true, recurses := true, named := ["math/bits.overflowError"], apart := false, narrowed := true }
def IsolateCommonUptoSaid : Prop := isolateCommonUptoRow.holds Tryz.pinned (OpenSpec.upto isolateCommonSpec)

/-- 'cylinderlaw16.IsolateParts', WHERE WHAT IT READS IS OF BULK AT MOST 1048576: true; the input reads as it did. -/
def isolatePartsUptoRow : OpenClaim := { program := "ytjmglmgokfcgoaagreat", sum := "aa366a3bdfc542be7378e4791502f04e83e851bea5020da3474ee2f7f92e4f3e", func := "cylinder/cylinderlaw16.IsolateParts", spec := "isolateParts", unfollowed := true, recurses := true, named := ["math/bits.overflowError"], apart := false, narrowed := true }
def IsolatePartsUptoSaid : Prop := isolatePartsUptoRow.holds Tryz.pinned (OpenSpec.upto isolatePartsSpec)

/-- 'cylinderlaw17.DescartesBounds', WHERE WHAT IT READS IS OF BULK AT MOST 1048576: true; the input reads as it did. -/
def descartesBoundsUptoRow : OpenClaim := { program := "ytjmglmgokfcgoaagreat", sum := "aa366a3bdfc542be7378e4791502f04e83e851bea5020da3474ee2f7f92e4f3e", func := "cylinder/cylinderlaw17.DescartesBounds", spec := "descartesBounds", unfollowed := true, recurses := true, named := ["math/bits.overflowError"], apart := false, narrowed := true }
def DescartesBoundsUptoSaid : Prop := descartesBoundsUptoRow.holds Tryz.pinned (OpenSpec.upto descartesBoundsSpec)

/-- 'cylinderlaw18.RefineSteps', WHERE WHAT IT READS IS OF BULK AT MOST 1048576: true; the input reads as it did. -/
def refineStepsUptoRow : OpenClaim := { program := "ytjmglmgokfcgoaagreat", sum := "aa366a3bdfc542be7378e4791502f04e83e851bea5020da3474ee2f7f92e4f3e", func := "cylinder/cylinderlaw18.RefineSteps", spec := "refineSteps", unfollowed := true, recurses := true, named := ["math/bits.overflowError"], apart := false, narrowed := true }
def RefineStepsUptoSaid : Prop := refineStepsUptoRow.holds Tryz.pinned (OpenSpec.upto refineStepsSpec)

/-- 'cylinderlaw17.DescartesRoots', WHERE WHAT IT READS IS OF BULK AT MOST 1048576: true; the input reads as it did. -/
def descartesRootsUptoRow : OpenClaim := { program := "ytjmglmgokfcgoaagreat", sum := "aa366a3bdfc542be7378e4791502f04e83e851bea5020da3474ee2f7f92e4f3e", func := "cylinder/cylinderlaw17.DescartesRoots", spec := "descartesRoots", unfollowed := true, recurses := true, named := ["math/bits.overflowError"], apart := false, narrowed := true }
def DescartesRootsUptoSaid : Prop := descartesRootsUptoRow.holds Tryz.pinned (OpenSpec.upto descartesRootsSpec)

/-- 'cylinderlaw17.DescartesBernstein', WHERE WHAT IT READS IS OF BULK AT MOST 1048576: true; the input reads as it did. -/
def descartesBernsteinUptoRow : OpenClaim := { program := "ytjmglmgokfcgoaagreat", sum := "aa366a3bdfc542be7378e4791502f04e83e851bea5020da3474ee2f7f92e4f3e", func := "cylinder/cylinderlaw17.DescartesBernstein", spec := "descartesBernstein", unfollowed := true, recurses := true, named := ["math/bits.overflowError"], apart := false, narrowed := true }
def DescartesBernsteinUptoSaid : Prop := descartesBernsteinUptoRow.holds Tryz.pinned (OpenSpec.upto descartesBernsteinSpec)

/-- 'cylinderlaw18.RefineNarrows', WHERE WHAT IT READS IS OF BULK AT MOST 1048576: true; the input reads as it did. -/
def refineNarrowsUptoRow : OpenClaim := { program := "ytjmglmgokfcgoaagreat", sum := "aa366a3bdfc542be7378e4791502f04e83e851bea5020da3474ee2f7f92e4f3e", func := "cylinder/cylinderlaw18.RefineNarrows", spec := "refineNarrows", unfollowed := true, recurses := true, named := ["math/bits.overflowError"], apart := false, narrowed := true }
def RefineNarrowsUptoSaid : Prop := refineNarrowsUptoRow.holds Tryz.pinned (OpenSpec.upto refineNarrowsSpec)

/-- 'cylinderlaw18.RefineFloors', WHERE WHAT IT READS IS OF BULK AT MOST 1048576: true; the input reads as it did. -/
def refineFloorsUptoRow : OpenClaim := { program := "ytjmglmgokfcgoaagreat", sum := "aa366a3bdfc542be7378e4791502f04e83e851bea5020da3474ee2f7f92e4f3e", func := "cylinder/cylinderlaw18.RefineFloors", spec := "refineFloors", inPlace := ["internal/abi.NoEscape", "internal/bytealg.MakeNoZero"], unfollowed := true, recurses := true, named := ["math/bits.overflowError"], apart := false, narrowed := true }
def RefineFloorsUptoSaid : Prop := refineFloorsUptoRow.holds Tryz.pinned (OpenSpec.upto refineFloorsSpec)

/-- 'cylinderlaw18.RefineRejects', WHERE WHAT IT READS IS OF BULK AT MOST 1048576: true; the input reads as it did. -/
def refineRejectsUptoRow : OpenClaim := { program := "ytjmglmgokfcgoaagreat", sum := "aa366a3bdfc542be7378e4791502f04e83e851bea5020da3474ee2f7f92e4f3e", func := "cylinder/cylinderlaw18.RefineRejects", spec := "refineRejects", inPlace := ["internal/abi.NoEscape", "internal/bytealg.MakeNoZero"], unfollowed := true, recurses := true, named := ["math/bits.overflowError"], apart := false, narrowed := true }
def RefineRejectsUptoSaid : Prop := refineRejectsUptoRow.holds Tryz.pinned (OpenSpec.upto refineRejectsSpec)

end Rows
end Go.Proofs.YtjmglmgokfcgoaaGreat
