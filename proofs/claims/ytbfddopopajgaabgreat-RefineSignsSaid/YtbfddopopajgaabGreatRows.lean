/-
  No cell of these rows narrows 'for every input' (looked for: loops, veiled, ifaces, maps, wideKeys, modest, calm, conditions, laid).
  DERIVED. THE GIVEN ROWS OF THIS SEAT. 5 by the template 'for every input the law returns true; each argument reads behind the call as it read before'; 0 by the template 'total and deterministic' (their statements: YtbfddopopajgaabGreatTotals.lean).
  GIVEN WITH THE SEED: the statements are not yours to turn. If you find one false, say at which input.
  Laid BY PROGRAM, IN A SANDBOX (cutbox-rows.mjs): the forced cells as the released guide's own fill.sh prints them over the translation 685723d098c8c973… (all of the seat's roots in one cut). By AI agents, Wed Nov 11 2026. No macro, syntax, notation, axiom, sorry.
-/
import Derived.Test.YtbfddopopajgaabGreatChecked
import GoSem.Claim
import GoSem.ClaimJoined
import GoSem.ClaimMapViews
import Derived.JoinedTies
import Derived.KernelRfl
namespace Go.Proofs.YtbfddopopajgaabGreat
/- THE CELL 'sum', in the pinned program and in every row, IS THE sha256 OF THE DUMP (.gsa) THAT YtbfddopopajgaabGreatProg.lean LOADS. Nothing in Lean hashes anything: it is a label: what it is worth is what the hold of that sum in a sandbox is worth. -/
noncomputable def Tryz.pinned : Pinned := { name := "ytbfddopopajgaabgreat", sum := "685723d098c8c973c0c6190f3cd3f8174299494d24fadfb1d3c7e28c57ac1399", checked := Tryz.checked }
namespace Rows
def none {H : Type} : Left H := { results := [], args := [] }

/-- 'cylinderlaw18.RefineSigns': WHATEVER THE INPUT: true; the input reads as it did. -/
def refineSignsSpec : ChangeSpec := { name := "refineSigns", fn := fun _ => fun
  | [d1, d2, d3] => { results := [.lit (.bool true)], args := [d1, d2, d3] }
  | _ => none }
def refineSignsRow : OpenClaim := { program := "ytbfddopopajgaabgreat", sum := "685723d098c8c973c0c6190f3cd3f8174299494d24fadfb1d3c7e28c57ac1399", func := "cylinder/cylinderlaw18.RefineSigns", spec := "refineSigns", unfollowed := true, recurses := true, named := ["math/bits.overflowError"], apart := false }
def RefineSignsSaid : Prop := refineSignsRow.holds Tryz.pinned (OpenSpec.ofChange refineSignsSpec)

/-- ITS FALSE NEIGHBOUR: 'it returns false'. Refute it at one input. -/
def refineSignsWrong : ChangeSpec := { name := "refineSigns", fn := fun _ => fun
  | [d1, d2, d3] => { results := [.lit (.bool false)], args := [d1, d2, d3] }
  | _ => none }
def RefineSignsWrongFalsely : Prop := refineSignsRow.holds Tryz.pinned (OpenSpec.ofChange refineSignsWrong)

/-- 'cylinderlaw18.RefineNarrows': WHATEVER THE INPUT: true; the input reads as it did. -/
def refineNarrowsSpec : ChangeSpec := { name := "refineNarrows", fn := fun _ => fun
  | [d1, d2, d3] => { results := [.lit (.bool true)], args := [d1, d2, d3] }
  | _ => none }
def refineNarrowsRow : OpenClaim := { program := "ytbfddopopajgaabgreat", sum := "685723d098c8c973c0c6190f3cd3f8174299494d24fadfb1d3c7e28c57ac1399", func := "cylinder/cylinderlaw18.RefineNarrows", spec := "refineNarrows", unfollowed := true, recurses := true, named := ["math/bits.overflowError"], apart := false }
def RefineNarrowsSaid : Prop := refineNarrowsRow.holds Tryz.pinned (OpenSpec.ofChange refineNarrowsSpec)

/-- ITS FALSE NEIGHBOUR: 'it returns false'. Refute it at one input. -/
def refineNarrowsWrong : ChangeSpec := { name := "refineNarrows", fn := fun _ => fun
  | [d1, d2, d3] => { results := [.lit (.bool false)], args := [d1, d2, d3] }
  | _ => none }
def RefineNarrowsWrongFalsely : Prop := refineNarrowsRow.holds Tryz.pinned (OpenSpec.ofChange refineNarrowsWrong)

/-- 'cylinderlaw18.RefineOrders': WHATEVER THE INPUT: true; the input reads as it did. -/
def refineOrdersSpec : ChangeSpec := { name := "refineOrders", fn := fun _ => fun
  | [d1, d2, d3] => { results := [.lit (.bool true)], args := [d1, d2, d3] }
  | _ => none }
def refineOrdersRow : OpenClaim := { program := "ytbfddopopajgaabgreat", sum := "685723d098c8c973c0c6190f3cd3f8174299494d24fadfb1d3c7e28c57ac1399", func := "cylinder/cylinderlaw18.RefineOrders", spec := "refineOrders", unfollowed := true, recurses := true, named := ["math/bits.overflowError"], apart := false }
def RefineOrdersSaid : Prop := refineOrdersRow.holds Tryz.pinned (OpenSpec.ofChange refineOrdersSpec)

/-- ITS FALSE NEIGHBOUR: 'it returns false'. Refute it at one input. -/
def refineOrdersWrong : ChangeSpec := { name := "refineOrders", fn := fun _ => fun
  | [d1, d2, d3] => { results := [.lit (.bool false)], args := [d1, d2, d3] }
  | _ => none }
def RefineOrdersWrongFalsely : Prop := refineOrdersRow.holds Tryz.pinned (OpenSpec.ofChange refineOrdersWrong)

/-- 'cylinderlaw18.RefineFloors': WHATEVER THE INPUT: true; the input reads as it did. -/
def refineFloorsSpec : ChangeSpec := { name := "refineFloors", fn := fun _ => fun
  | [d1, d2, d3] => { results := [.lit (.bool true)], args := [d1, d2, d3] }
  | _ => none }
def refineFloorsRow : OpenClaim := { program := "ytbfddopopajgaabgreat", sum := "685723d098c8c973c0c6190f3cd3f8174299494d24fadfb1d3c7e28c57ac1399", func := "cylinder/cylinderlaw18.RefineFloors", spec := "refineFloors", inPlace := ["internal/abi.NoEscape", "internal/bytealg.MakeNoZero"], unfollowed := true, recurses := true, named := ["math/bits.overflowError"], apart := false }
def RefineFloorsSaid : Prop := refineFloorsRow.holds Tryz.pinned (OpenSpec.ofChange refineFloorsSpec)

/-- ITS FALSE NEIGHBOUR: 'it returns false'. Refute it at one input. -/
def refineFloorsWrong : ChangeSpec := { name := "refineFloors", fn := fun _ => fun
  | [d1, d2, d3] => { results := [.lit (.bool false)], args := [d1, d2, d3] }
  | _ => none }
def RefineFloorsWrongFalsely : Prop := refineFloorsRow.holds Tryz.pinned (OpenSpec.ofChange refineFloorsWrong)

/-- 'cylinderlaw18.RefineRejects': WHATEVER THE INPUT: true; the input reads as it did. -/
def refineRejectsSpec : ChangeSpec := { name := "refineRejects", fn := fun _ => fun
  | [d1, d2] => { results := [.lit (.bool true)], args := [d1, d2] }
  | _ => none }
def refineRejectsRow : OpenClaim := { program := "ytbfddopopajgaabgreat", sum := "685723d098c8c973c0c6190f3cd3f8174299494d24fadfb1d3c7e28c57ac1399", func := "cylinder/cylinderlaw18.RefineRejects", spec := "refineRejects", inPlace := ["internal/abi.NoEscape", "internal/bytealg.MakeNoZero"], unfollowed := true, recurses := true, named := ["math/bits.overflowError"], apart := false }
def RefineRejectsSaid : Prop := refineRejectsRow.holds Tryz.pinned (OpenSpec.ofChange refineRejectsSpec)

/-- ITS FALSE NEIGHBOUR: 'it returns false'. Refute it at one input. -/
def refineRejectsWrong : ChangeSpec := { name := "refineRejects", fn := fun _ => fun
  | [d1, d2] => { results := [.lit (.bool false)], args := [d1, d2] }
  | _ => none }
def RefineRejectsWrongFalsely : Prop := refineRejectsRow.holds Tryz.pinned (OpenSpec.ofChange refineRejectsWrong)

/- THE SECOND FORM. 'bulk': how many values and letters a reading holds, each counted each time it is reached (what is shared counts as often as it is met; a slice's spare places count too). A statement '..UptoSaid' is the law's where the arguments, and the package variables that the reading takes, are together of bulk at most 1048576: NARROWER than '..Said'. Prove '..Said' where nothing that the law and all that it calls make is longer than what came in: it says more and counts as full. Else prove '..UptoSaid'. A law counts once. -/
mutual
def uptoBulk {H : Type} : DataW H → Nat
  | .lit (.string bytes) => bytes.length + 1
  | .lit _ => 1
  | .nil => 1
  | .ptr d => uptoBulk d + 1
  | .slice elems spare => uptoBulkAll elems + uptoBulkAll spare + 1
  | .agg parts => uptoBulkAll parts + 1
  | .iface _ d => uptoBulk d + 1
  | .map entries => uptoBulkEntries entries + 1
  | .held _ => 1
def uptoBulkAll {H : Type} : List (DataW H) → Nat
  | [] => 0
  | d :: r => uptoBulk d + uptoBulkAll r
def uptoBulkEntries {H : Type} : List (Lit × DataW H) → Nat
  | [] => 0
  | x :: r => uptoBulkEntry x + uptoBulkEntries r
def uptoBulkEntry {H : Type} : Lit × DataW H → Nat
  | (.string bytes, d) => bytes.length + uptoBulk d + 1
  | (_, d) => uptoBulk d + 1
 end
def uptoSmall : (H : Type) → List (DataW H) → Bool := fun _ ds => decide (uptoBulkAll ds ≤ 1048576)
def OpenSpec.upto (s : _root_.Go.ChangeSpec) : _root_.Go.OpenSpec := { _root_.Go.OpenSpec.ofChange s with cond := some uptoSmall }

/-- 'cylinderlaw18.RefineSigns', WHERE WHAT IT READS IS OF BULK AT MOST 1048576: true; the input reads as it did. -/
def refineSignsUptoRow : OpenClaim := { program := "ytbfddopopajgaabgreat", sum := "685723d098c8c973c0c6190f3cd3f8174299494d24fadfb1d3c7e28c57ac1399", func := "cylinder/cylinderlaw18.RefineSigns", spec := "refineSigns", unfollowed := true, recurses := true, named := ["math/bits.overflowError"], apart := false, narrowed := true }
def RefineSignsUptoSaid : Prop := refineSignsUptoRow.holds Tryz.pinned (OpenSpec.upto refineSignsSpec)

/-- 'cylinderlaw18.RefineNarrows', WHERE WHAT IT READS IS OF BULK AT MOST 1048576: true; the input reads as it did. -/
def refineNarrowsUptoRow : OpenClaim := { program := "ytbfddopopajgaabgreat", sum := "685723d098c8c973c0c6190f3cd3f8174299494d24fadfb1d3c7e28c57ac1399", func := "cylinder/cylinderlaw18.RefineNarrows", spec := "refineNarrows", unfollowed := true, recurses := true, named := ["math/bits.overflowError"], apart := false, narrowed := true }
def RefineNarrowsUptoSaid : Prop := refineNarrowsUptoRow.holds Tryz.pinned (OpenSpec.upto refineNarrowsSpec)

/-- 'cylinderlaw18.RefineOrders', WHERE WHAT IT READS IS OF BULK AT MOST 1048576: true; the input reads as it did. -/
def refineOrdersUptoRow : OpenClaim := { program := "ytbfddopopajgaabgreat", sum := "685723d098c8c973c0c6190f3cd3f8174299494d24fadfb1d3c7e28c57ac1399", func := "cylinder/cylinderlaw18.RefineOrders", spec := "refineOrders", unfollowed := true, recurses := true, named := ["math/bits.overflowError"], apart := false, narrowed := true }
def RefineOrdersUptoSaid : Prop := refineOrdersUptoRow.holds Tryz.pinned (OpenSpec.upto refineOrdersSpec)

/-- 'cylinderlaw18.RefineFloors', WHERE WHAT IT READS IS OF BULK AT MOST 1048576: true; the input reads as it did. -/
def refineFloorsUptoRow : OpenClaim := { program := "ytbfddopopajgaabgreat", sum := "685723d098c8c973c0c6190f3cd3f8174299494d24fadfb1d3c7e28c57ac1399", func := "cylinder/cylinderlaw18.RefineFloors", spec := "refineFloors", inPlace := ["internal/abi.NoEscape", "internal/bytealg.MakeNoZero"], unfollowed := true, recurses := true, named := ["math/bits.overflowError"], apart := false, narrowed := true }
def RefineFloorsUptoSaid : Prop := refineFloorsUptoRow.holds Tryz.pinned (OpenSpec.upto refineFloorsSpec)

/-- 'cylinderlaw18.RefineRejects', WHERE WHAT IT READS IS OF BULK AT MOST 1048576: true; the input reads as it did. -/
def refineRejectsUptoRow : OpenClaim := { program := "ytbfddopopajgaabgreat", sum := "685723d098c8c973c0c6190f3cd3f8174299494d24fadfb1d3c7e28c57ac1399", func := "cylinder/cylinderlaw18.RefineRejects", spec := "refineRejects", inPlace := ["internal/abi.NoEscape", "internal/bytealg.MakeNoZero"], unfollowed := true, recurses := true, named := ["math/bits.overflowError"], apart := false, narrowed := true }
def RefineRejectsUptoSaid : Prop := refineRejectsUptoRow.holds Tryz.pinned (OpenSpec.upto refineRejectsSpec)

end Rows
end Go.Proofs.YtbfddopopajgaabGreat
