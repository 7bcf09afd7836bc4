/-
  No cell of these rows narrows 'for every input' (looked for: loops, veiled, ifaces, maps, wideKeys, modest, calm, conditions, laid).
  DERIVED. THE GIVEN ROWS OF THIS SEAT. 5 by the template 'for every input the law returns true; each argument reads behind the call as it read before'; 0 by the template 'total and deterministic' (their statements: YtccapbajbniknaaTotals.lean).
  GIVEN WITH THE SEED: the statements are not yours to turn. If you find one false, say at which input.
  Laid BY PROGRAM, IN A SANDBOX (cutbox-rows.mjs): the forced cells as the released guide's own fill.sh prints them over the translation 1173eacb765d2749… (all of the seat's roots in one cut). By AI agents, Wed Nov 11 2026. No macro, syntax, notation, axiom, sorry.
-/
import Derived.Test.YtccapbajbniknaaChecked
import GoSem.Claim
import GoSem.ClaimJoined
import GoSem.ClaimMapViews
import Derived.JoinedTies
import Derived.KernelRfl
namespace Go.Proofs.Ytccapbajbniknaa
/- THE CELL 'sum', in the pinned program and in every row, IS THE sha256 OF THE DUMP (.gsa) THAT YtccapbajbniknaaProg.lean LOADS. Nothing in Lean hashes anything: it is a label: what it is worth is what the hold of that sum in a sandbox is worth. -/
noncomputable def Try.pinned : Pinned := { name := "ytccapbajbniknaa", sum := "1173eacb765d27492096afacbe390f3ab04f8e1167a259eebb788837c63f99dc", checked := Try.checked }
namespace Rows
def none {H : Type} : Left H := { results := [], args := [] }

/-- 'cylinderlaw14.RootboundDescartes': WHATEVER THE INPUT: true; the input reads as it did. -/
def rootboundDescartesSpec : ChangeSpec := { name := "rootboundDescartes", fn := fun _ => fun
  | [d] => { results := [.lit (.bool true)], args := [d] }
  | _ => none }
def rootboundDescartesRow : OpenClaim := { program := "ytccapbajbniknaa", sum := "1173eacb765d27492096afacbe390f3ab04f8e1167a259eebb788837c63f99dc", func := "cylinder/cylinderlaw14.RootboundDescartes", spec := "rootboundDescartes", unfollowed := true, recurses := true, named := ["math/bits.overflowError"], apart := false }
def RootboundDescartesSaid : Prop := rootboundDescartesRow.holds Try.pinned (OpenSpec.ofChange rootboundDescartesSpec)

/-- ITS FALSE NEIGHBOUR: 'it returns false'. Refute it at one input. -/
def rootboundDescartesWrong : ChangeSpec := { name := "rootboundDescartes", fn := fun _ => fun
  | [d] => { results := [.lit (.bool false)], args := [d] }
  | _ => none }
def RootboundDescartesWrongFalsely : Prop := rootboundDescartesRow.holds Try.pinned (OpenSpec.ofChange rootboundDescartesWrong)

/-- 'cylinderlaw15.SturmIndex': WHATEVER THE INPUT: true; the input reads as it did. -/
def sturmIndexSpec : ChangeSpec := { name := "sturmIndex", fn := fun _ => fun
  | [d1, d2, d3] => { results := [.lit (.bool true)], args := [d1, d2, d3] }
  | _ => none }
def sturmIndexRow : OpenClaim := { program := "ytccapbajbniknaa", sum := "1173eacb765d27492096afacbe390f3ab04f8e1167a259eebb788837c63f99dc", func := "cylinder/cylinderlaw15.SturmIndex", spec := "sturmIndex", unfollowed := true, recurses := true, named := ["math/bits.overflowError"], apart := false }
def SturmIndexSaid : Prop := sturmIndexRow.holds Try.pinned (OpenSpec.ofChange sturmIndexSpec)

/-- ITS FALSE NEIGHBOUR: 'it returns false'. Refute it at one input. -/
def sturmIndexWrong : ChangeSpec := { name := "sturmIndex", fn := fun _ => fun
  | [d1, d2, d3] => { results := [.lit (.bool false)], args := [d1, d2, d3] }
  | _ => none }
def SturmIndexWrongFalsely : Prop := sturmIndexRow.holds Try.pinned (OpenSpec.ofChange sturmIndexWrong)

/-- 'cylinderlaw15.SturmTheorem': WHATEVER THE INPUT: true; the input reads as it did. -/
def sturmTheoremSpec : ChangeSpec := { name := "sturmTheorem", fn := fun _ => fun
  | [d1, d2, d3] => { results := [.lit (.bool true)], args := [d1, d2, d3] }
  | _ => none }
def sturmTheoremRow : OpenClaim := { program := "ytccapbajbniknaa", sum := "1173eacb765d27492096afacbe390f3ab04f8e1167a259eebb788837c63f99dc", func := "cylinder/cylinderlaw15.SturmTheorem", spec := "sturmTheorem", unfollowed := true, recurses := true, named := ["math/bits.overflowError"], apart := false }
def SturmTheoremSaid : Prop := sturmTheoremRow.holds Try.pinned (OpenSpec.ofChange sturmTheoremSpec)

/-- ITS FALSE NEIGHBOUR: 'it returns false'. Refute it at one input. -/
def sturmTheoremWrong : ChangeSpec := { name := "sturmTheorem", fn := fun _ => fun
  | [d1, d2, d3] => { results := [.lit (.bool false)], args := [d1, d2, d3] }
  | _ => none }
def SturmTheoremWrongFalsely : Prop := sturmTheoremRow.holds Try.pinned (OpenSpec.ofChange sturmTheoremWrong)

/-- 'cylinderlaw15.SturmTarski': WHATEVER THE INPUT: true; the input reads as it did. -/
def sturmTarskiSpec : ChangeSpec := { name := "sturmTarski", fn := fun _ => fun
  | [d1, d2, d3] => { results := [.lit (.bool true)], args := [d1, d2, d3] }
  | _ => none }
def sturmTarskiRow : OpenClaim := { program := "ytccapbajbniknaa", sum := "1173eacb765d27492096afacbe390f3ab04f8e1167a259eebb788837c63f99dc", func := "cylinder/cylinderlaw15.SturmTarski", spec := "sturmTarski", unfollowed := true, recurses := true, named := ["math/bits.overflowError"], apart := false }
def SturmTarskiSaid : Prop := sturmTarskiRow.holds Try.pinned (OpenSpec.ofChange sturmTarskiSpec)

/-- ITS FALSE NEIGHBOUR: 'it returns false'. Refute it at one input. -/
def sturmTarskiWrong : ChangeSpec := { name := "sturmTarski", fn := fun _ => fun
  | [d1, d2, d3] => { results := [.lit (.bool false)], args := [d1, d2, d3] }
  | _ => none }
def SturmTarskiWrongFalsely : Prop := sturmTarskiRow.holds Try.pinned (OpenSpec.ofChange sturmTarskiWrong)

/-- 'cylinderlaw14.RootboundScales': WHATEVER THE INPUT: true; the input reads as it did. -/
def rootboundScalesSpec : ChangeSpec := { name := "rootboundScales", fn := fun _ => fun
  | [d1, d2, d3] => { results := [.lit (.bool true)], args := [d1, d2, d3] }
  | _ => none }
def rootboundScalesRow : OpenClaim := { program := "ytccapbajbniknaa", sum := "1173eacb765d27492096afacbe390f3ab04f8e1167a259eebb788837c63f99dc", func := "cylinder/cylinderlaw14.RootboundScales", spec := "rootboundScales", unfollowed := true, recurses := true, named := ["math/bits.overflowError"], apart := false }
def RootboundScalesSaid : Prop := rootboundScalesRow.holds Try.pinned (OpenSpec.ofChange rootboundScalesSpec)

/-- ITS FALSE NEIGHBOUR: 'it returns false'. Refute it at one input. -/
def rootboundScalesWrong : ChangeSpec := { name := "rootboundScales", fn := fun _ => fun
  | [d1, d2, d3] => { results := [.lit (.bool false)], args := [d1, d2, d3] }
  | _ => none }
def RootboundScalesWrongFalsely : Prop := rootboundScalesRow.holds Try.pinned (OpenSpec.ofChange rootboundScalesWrong)

/- THE SECOND FORM. 'bulk': how many values and letters a reading holds, each counted each time it is reached (what is shared counts as often as it is met; a slice's spare places count too). A statement '..UptoSaid' is the law's where the arguments, and the package variables that the reading takes, are together of bulk at most 1048576: NARROWER than '..Said'. Prove '..Said' where nothing that the law and all that it calls make is longer than what came in: it says more and counts as full. Else prove '..UptoSaid'. A law counts once. -/
mutual
def uptoBulk {H : Type} : DataW H → Nat
  | .lit (.string bytes) => bytes.length + 1
  | .lit _ => 1
  | .nil => 1
  | .ptr d => uptoBulk d + 1
  | .slice elems spare => uptoBulkAll elems + uptoBulkAll spare + 1
  | .agg parts => uptoBulkAll parts + 1
  | .iface _ d => uptoBulk d + 1
  | .map entries => uptoBulkEntries entries + 1
  | .held _ => 1
def uptoBulkAll {H : Type} : List (DataW H) → Nat
  | [] => 0
  | d :: r => uptoBulk d + uptoBulkAll r
def uptoBulkEntries {H : Type} : List (Lit × DataW H) → Nat
  | [] => 0
  | x :: r => uptoBulkEntry x + uptoBulkEntries r
def uptoBulkEntry {H : Type} : Lit × DataW H → Nat
  | (.string bytes, d) => bytes.length + uptoBulk d + 1
  | (_, d) => uptoBulk d + 1
 end
def uptoSmall : (H : Type) → List (DataW H) → Bool := fun _ ds => decide (uptoBulkAll ds ≤ 1048576)
def OpenSpec.upto (s : _root_.Go.ChangeSpec) : _root_.Go.OpenSpec := { _root_.Go.OpenSpec.ofChange s with cond := some uptoSmall }

/-- 'cylinderlaw14.RootboundDescartes', WHERE WHAT IT READS IS OF BULK AT MOST 1048576: true; the input reads as it did. -/
def rootboundDescartesUptoRow : OpenClaim := { program := "ytccapbajbniknaa", sum := "1173eacb765d27492096afacbe390f3ab04f8e1167a259eebb788837c63f99dc", func := "cylinder/cylinderlaw14.RootboundDescartes", spec := "rootboundDescartes", unfollowed := true, recurses := true, named := ["math/bits.overflowError"], apart := false, narrowed := true }
def RootboundDescartesUptoSaid : Prop := rootboundDescartesUptoRow.holds Try.pinned (OpenSpec.upto rootboundDescartesSpec)

/-- 'cylinderlaw15.SturmIndex', WHERE WHAT IT READS IS OF BULK AT MOST 1048576: true; the input reads as it did. -/
def sturmIndexUptoRow : OpenClaim := { program := "ytccapbajbniknaa", sum := "1173eacb765d27492096afacbe390f3ab04f8e1167a259eebb788837c63f99dc", func := "cylinder/cylinderlaw15.SturmIndex", spec := "sturmIndex", unfollowed := true, recurses := true, named := ["math/bits.overflowError"], apart := false, narrowed := true }
def SturmIndexUptoSaid : Prop := sturmIndexUptoRow.holds Try.pinned (OpenSpec.upto sturmIndexSpec)

/-- 'cylinderlaw15.SturmTheorem', WHERE WHAT IT READS IS OF BULK AT MOST 1048576: true; the input reads as it did. -/
def sturmTheoremUptoRow : OpenClaim := { program := "ytccapbajbniknaa", sum := "1173eacb765d27492096afacbe390f3ab04f8e1167a259eebb788837c63f99dc", func := "cylinder/cylinderlaw15.SturmTheorem", spec := "sturmTheorem", unfollowed := true, recurses := true, named := ["math/bits.overflowError"], apart := false, narrowed := true }
def SturmTheoremUptoSaid : Prop := sturmTheoremUptoRow.holds Try.pinned (OpenSpec.upto sturmTheoremSpec)

/-- 'cylinderlaw15.SturmTarski', WHERE WHAT IT READS IS OF BULK AT MOST 1048576: true; the input reads as it did. -/
def sturmTarskiUptoRow : OpenClaim := { program := "ytccapbajbniknaa", sum := "1173eacb765d27492096afacbe390f3ab04f8e1167a259eebb788837c63f99dc", func := "cylinder/cylinderlaw15.SturmTarski", spec := "sturmTarski", unfollowed := true, recurses := true, named := ["math/bits.overflowError"], apart := false, narrowed := true }
def SturmTarskiUptoSaid : Prop := sturmTarskiUptoRow.holds Try.pinned (OpenSpec.upto sturmTarskiSpec)

/-- 'cylinderlaw14.RootboundScales', WHERE WHAT IT READS IS OF BULK AT MOST 1048576: true; the input reads as it did. -/
def rootboundScalesUptoRow : OpenClaim := { program := "ytccapbajbniknaa", sum := "1173eacb765d27492096afacbe390f3ab04f8e1167a259eebb788837c63f99dc", func := "cylinder/cylinderlaw14.RootboundScales", spec := "rootboundScales", unfollowed := true, recurses := true, named := ["math/bits.overflowError"], apart := false, narrowed := true }
def RootboundScalesUptoSaid : Prop := rootboundScalesUptoRow.holds Try.pinned (OpenSpec.upto rootboundScalesSpec)

end Rows
end Go.Proofs.Ytccapbajbniknaa
