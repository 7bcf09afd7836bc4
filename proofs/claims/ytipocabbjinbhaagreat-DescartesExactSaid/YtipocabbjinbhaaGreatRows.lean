/-
  No cell of these rows narrows 'for every input' (looked for: loops, veiled, ifaces, maps, wideKeys, modest, calm, conditions, laid).
  DERIVED. THE GIVEN ROWS OF THIS SEAT. 7 by the template 'for every input the law returns true; each argument reads behind the call as it read before'; 0 by the template 'total and deterministic' (their statements: YtipocabbjinbhaaGreatTotals.lean).
  GIVEN WITH THE SEED: the statements are not yours to turn. If you find one false, say at which input.
  Laid BY PROGRAM, IN A SANDBOX (cutbox-rows.mjs): the forced cells as the released guide's own fill.sh prints them over the translation f6918d2706d5653f… (all of the seat's roots in one cut). By AI agents, Wed Nov 11 2026. No macro, syntax, notation, axiom, sorry.
-/
import Derived.Test.YtipocabbjinbhaaGreatChecked
import GoSem.Claim
import GoSem.ClaimJoined
import GoSem.ClaimMapViews
import Derived.JoinedTies
import Derived.KernelRfl
namespace Go.Proofs.YtipocabbjinbhaaGreat
/- THE CELL 'sum', in the pinned program and in every row, IS THE sha256 OF THE DUMP (.gsa) THAT YtipocabbjinbhaaGreatProg.lean LOADS. Nothing in Lean hashes anything: it is a label: what it is worth is what the hold of that sum in a sandbox is worth. -/
noncomputable def Tryz.pinned : Pinned := { name := "ytipocabbjinbhaagreat", sum := "f6918d2706d5653f986e63506d4bcdf1f15b57dd527b15793bdae7fe9c5f1d54", checked := Tryz.checked }
namespace Rows
def none {H : Type} : Left H := { results := [], args := [] }

/-- 'cylinderlaw14.RootboundSeparation': WHATEVER THE INPUT: true; the input reads as it did. -/
def rootboundSeparationSpec : ChangeSpec := { name := "rootboundSeparation", fn := fun _ => fun
  | [d] => { results := [.lit (.bool true)], args := [d] }
  | _ => none }
def rootboundSeparationRow : OpenClaim := { program := "ytipocabbjinbhaagreat", sum := "f6918d2706d5653f986e63506d4bcdf1f15b57dd527b15793bdae7fe9c5f1d54", func := "cylinder/cylinderlaw14.RootboundSeparation", spec := "rootboundSeparation", unfollowed := true, recurses := true, named := ["math/bits.overflowError"], apart := false }
def RootboundSeparationSaid : Prop := rootboundSeparationRow.holds Tryz.pinned (OpenSpec.ofChange rootboundSeparationSpec)

/-- ITS FALSE NEIGHBOUR: 'it returns false'. Refute it at one input. -/
def rootboundSeparationWrong : ChangeSpec := { name := "rootboundSeparation", fn := fun _ => fun
  | [d] => { results := [.lit (.bool false)], args := [d] }
  | _ => none }
def RootboundSeparationWrongFalsely : Prop := rootboundSeparationRow.holds Tryz.pinned (OpenSpec.ofChange rootboundSeparationWrong)

/-- 'cylinderlaw15.SturmSigns': WHATEVER THE INPUT: true; the input reads as it did. -/
def sturmSignsSpec : ChangeSpec := { name := "sturmSigns", fn := fun _ => fun
  | [d1, d2] => { results := [.lit (.bool true)], args := [d1, d2] }
  | _ => none }
def sturmSignsRow : OpenClaim := { program := "ytipocabbjinbhaagreat", sum := "f6918d2706d5653f986e63506d4bcdf1f15b57dd527b15793bdae7fe9c5f1d54", func := "cylinder/cylinderlaw15.SturmSigns", spec := "sturmSigns", unfollowed := true, recurses := true, named := ["math/bits.overflowError"], apart := false }
def SturmSignsSaid : Prop := sturmSignsRow.holds Tryz.pinned (OpenSpec.ofChange sturmSignsSpec)

/-- ITS FALSE NEIGHBOUR: 'it returns false'. Refute it at one input. -/
def sturmSignsWrong : ChangeSpec := { name := "sturmSigns", fn := fun _ => fun
  | [d1, d2] => { results := [.lit (.bool false)], args := [d1, d2] }
  | _ => none }
def SturmSignsWrongFalsely : Prop := sturmSignsRow.holds Tryz.pinned (OpenSpec.ofChange sturmSignsWrong)

/-- 'cylinderlaw15.SturmCounts': WHATEVER THE INPUT: true; the input reads as it did. -/
def sturmCountsSpec : ChangeSpec := { name := "sturmCounts", fn := fun _ => fun
  | [d1, d2, d3] => { results := [.lit (.bool true)], args := [d1, d2, d3] }
  | _ => none }
def sturmCountsRow : OpenClaim := { program := "ytipocabbjinbhaagreat", sum := "f6918d2706d5653f986e63506d4bcdf1f15b57dd527b15793bdae7fe9c5f1d54", func := "cylinder/cylinderlaw15.SturmCounts", spec := "sturmCounts", unfollowed := true, recurses := true, named := ["math/bits.overflowError"], apart := false }
def SturmCountsSaid : Prop := sturmCountsRow.holds Tryz.pinned (OpenSpec.ofChange sturmCountsSpec)

/-- ITS FALSE NEIGHBOUR: 'it returns false'. Refute it at one input. -/
def sturmCountsWrong : ChangeSpec := { name := "sturmCounts", fn := fun _ => fun
  | [d1, d2, d3] => { results := [.lit (.bool false)], args := [d1, d2, d3] }
  | _ => none }
def SturmCountsWrongFalsely : Prop := sturmCountsRow.holds Tryz.pinned (OpenSpec.ofChange sturmCountsWrong)

/-- 'cylinderlaw15.SturmQueries': WHATEVER THE INPUT: true; the input reads as it did. -/
def sturmQueriesSpec : ChangeSpec := { name := "sturmQueries", fn := fun _ => fun
  | [d1, d2, d3] => { results := [.lit (.bool true)], args := [d1, d2, d3] }
  | _ => none }
def sturmQueriesRow : OpenClaim := { program := "ytipocabbjinbhaagreat", sum := "f6918d2706d5653f986e63506d4bcdf1f15b57dd527b15793bdae7fe9c5f1d54", func := "cylinder/cylinderlaw15.SturmQueries", spec := "sturmQueries", unfollowed := true, recurses := true, named := ["math/bits.overflowError"], apart := false }
def SturmQueriesSaid : Prop := sturmQueriesRow.holds Tryz.pinned (OpenSpec.ofChange sturmQueriesSpec)

/-- ITS FALSE NEIGHBOUR: 'it returns false'. Refute it at one input. -/
def sturmQueriesWrong : ChangeSpec := { name := "sturmQueries", fn := fun _ => fun
  | [d1, d2, d3] => { results := [.lit (.bool false)], args := [d1, d2, d3] }
  | _ => none }
def SturmQueriesWrongFalsely : Prop := sturmQueriesRow.holds Tryz.pinned (OpenSpec.ofChange sturmQueriesWrong)

/-- 'cylinderlaw16.IsolateKnown': WHATEVER THE INPUT: true; the input reads as it did. -/
def isolateKnownSpec : ChangeSpec := { name := "isolateKnown", fn := fun _ => fun
  | [d] => { results := [.lit (.bool true)], args := [d] }
  | _ => none }
def isolateKnownRow : OpenClaim := { program := "ytipocabbjinbhaagreat", sum := "f6918d2706d5653f986e63506d4bcdf1f15b57dd527b15793bdae7fe9c5f1d54", func := "cylinder/cylinderlaw16.IsolateKnown", spec := "isolateKnown", unfollowed := true, recurses := true, named := ["math/bits.overflowError"], apart := false }
def IsolateKnownSaid : Prop := isolateKnownRow.holds Tryz.pinned (OpenSpec.ofChange isolateKnownSpec)

/-- ITS FALSE NEIGHBOUR: 'it returns false'. Refute it at one input. -/
def isolateKnownWrong : ChangeSpec := { name := "isolateKnown", fn := fun _ => fun
  | [d] => { results := [.lit (.bool false)], args := [d] }
  | _ => none }
def IsolateKnownWrongFalsely : Prop := isolateKnownRow.holds Tryz.pinned (OpenSpec.ofChange isolateKnownWrong)

/-- 'cylinderlaw17.DescartesBounds': WHATEVER THE INPUT: true; the input reads as it did. -/
def descartesBoundsSpec : ChangeSpec := { name := "descartesBounds", fn := fun _ => fun
  | [d1, d2, d3] => { results := [.lit (.bool true)], args := [d1, d2, d3] }
  | _ => none }
def descartesBoundsRow : OpenClaim := { program := "ytipocabbjinbhaagreat", sum := "f6918d2706d5653f986e63506d4bcdf1f15b57dd527b15793bdae7fe9c5f1d54", func := "cylinder/cylinderlaw17.DescartesBounds", spec := "descartesBounds", unfollowed := true, recurses := true, named := ["math/bits.overflowError"], apart := false }
def DescartesBoundsSaid : Prop := descartesBoundsRow.holds Tryz.pinned (OpenSpec.ofChange descartesBoundsSpec)

/-- ITS FALSE NEIGHBOUR: 'it returns false'. Refute it at one input. -/
def descartesBoundsWrong : ChangeSpec := { name := "descartesBounds", fn := fun _ => fun
  | [d1, d2, d3] => { results := [.lit (.bool false)], args := [d1, d2, d3] }
  | _ => none }
def DescartesBoundsWrongFalsely : Prop := descartesBoundsRow.holds Tryz.pinned (OpenSpec.ofChange descartesBoundsWrong)

/-- 'cylinderlaw17.DescartesExact': WHATEVER THE INPUT: true; the input reads as it did. -/
def descartesExactSpec : ChangeSpec := { name := "descartesExact", fn := fun _ => fun
  | [d1, d2] => { results := [.lit (.bool true)], args := [d1, d2] }
  | _ => none }
def descartesExactRow : OpenClaim := { program := "ytipocabbjinbhaagreat", sum := "f6918d2706d5653f986e63506d4bcdf1f15b57dd527b15793bdae7fe9c5f1d54", func := "cylinder/cylinderlaw17.DescartesExact", spec := "descartesExact", unfollowed := true, recurses := true, named := ["math/bits.overflowError"], apart := false }
def DescartesExactSaid : Prop := descartesExactRow.holds Tryz.pinned (OpenSpec.ofChange descartesExactSpec)

/-- ITS FALSE NEIGHBOUR: 'it returns false'. Refute it at one input. -/
def descartesExactWrong : ChangeSpec := { name := "descartesExact", fn := fun _ => fun
  | [d1, d2] => { results := [.lit (.bool false)], args := [d1, d2] }
  | _ => none }
def DescartesExactWrongFalsely : Prop := descartesExactRow.holds Tryz.pinned (OpenSpec.ofChange descartesExactWrong)

/- THE SECOND FORM. 'bulk': how many values and letters a reading holds, each counted each time it is reached (what is shared counts as often as it is met; a slice's spare places count too). A statement '..UptoSaid' is the law's where the arguments, and the package variables that the reading takes, are together of bulk at most 1048576: NARROWER than '..Said'. Prove '..Said' where nothing that the law and all that it calls make is longer than what came in: it says more and counts as full. Else prove '..UptoSaid'. A law counts once. -/
mutual
def uptoBulk {H : Type} : DataW H → Nat
  | .lit (.string bytes) => bytes.length + 1
  | .lit _ => 1
  | .nil => 1
  | .ptr d => uptoBulk d + 1
  | .slice elems spare => uptoBulkAll elems + uptoBulkAll spare + 1
  | .agg parts => uptoBulkAll parts + 1
  | .iface _ d => uptoBulk d + 1
  | .map entries => uptoBulkEntries entries + 1
  | .held _ => 1
def uptoBulkAll {H : Type} : List (DataW H) → Nat
  | [] => 0
  | d :: r => uptoBulk d + uptoBulkAll r
def uptoBulkEntries {H : Type} : List (Lit × DataW H) → Nat
  | [] => 0
  | x :: r => uptoBulkEntry x + uptoBulkEntries r
def uptoBulkEntry {H : Type} : Lit × DataW H → Nat
  | (.string bytes, d) => bytes.length + uptoBulk d + 1
  | (_, d) => uptoBulk d + 1
 end
def uptoSmall : (H : Type) → List (DataW H) → Bool := fun _ ds => decide (uptoBulkAll ds ≤ 1048576)
def OpenSpec.upto (s : _root_.Go.ChangeSpec) : _root_.Go.OpenSpec := { _root_.Go.OpenSpec.ofChange s with cond := some uptoSmall }

/-- 'cylinderlaw14.RootboundSeparation', WHERE WHAT IT READS IS OF BULK AT MOST 1048576: true; the input reads as it did. -/
def rootboundSeparationUptoRow : OpenClaim := { program := "ytipocabbjinbhaagreat", sum := "f6918d2706d5653f986e63506d4bcdf1f15b57dd527b15793bdae7fe9c5f1d54", func := "cylinder/cylinderlaw14.RootboundSeparation", spec := "rootboundSeparation", unfollowed := true, recurses := true, named := ["math/bits.overflowError"], apart := false, narrowed := true }
def RootboundSeparationUptoSaid : Prop := rootboundSeparationUptoRow.holds Tryz.pinned (OpenSpec.upto rootboundSeparationSpec)

/-- 'cylinderlaw15.SturmSigns', WHERE WHAT IT READS IS OF BULK AT MOST 1048576: true; the input reads as it did. -/
def sturmSignsUptoRow : OpenClaim := { program := "ytipocabbjinbhaagreat", sum := "f6918d2706d5653f986e63506d4bcdf1f15b57dd527b15793bdae7fe9c5f1d54", func := "cylinder/cylinderlaw15.SturmSigns", spec := "sturmSigns", unfollowed := true, recurses := true, named := ["math/bits.overflowError"], apart := false, narrowed := true }
def SturmSignsUptoSaid : Prop := sturmSignsUptoRow.holds Tryz.pinned (OpenSpec.upto sturmSignsSpec)

/-- 'cylinderlaw15.SturmCounts', WHERE WHAT IT READS IS OF BULK AT MOST 1048576: true; the input reads as it did. -/
def sturmCountsUptoRow : OpenClaim := { program := "ytipocabbjinbhaagreat", sum := "f6918d2706d5653f986e63506d4bcdf1f15b57dd527b15793bdae7fe9c5f1d54", func := "cylinder/cylinderlaw15.SturmCounts", spec := "sturmCounts", unfollowed := true, recurses := true, named := ["math/bits.overflowError"], apart := false, narrowed := true }
def SturmCountsUptoSaid : Prop := sturmCountsUptoRow.holds Tryz.pinned (OpenSpec.upto sturmCountsSpec)

/-- 'cylinderlaw15.SturmQueries', WHERE WHAT IT READS IS OF BULK AT MOST 1048576: true; the input reads as it did. -/
def sturmQueriesUptoRow : OpenClaim := { program := "ytipocabbjinbhaagreat", sum := "f6918d2706d5653f986e63506d4bcdf1f15b57dd527b15793bdae7fe9c5f1d54", func := "cylinder/cylinderlaw15.SturmQueries", spec := "sturmQueries", unfollowed := true, recurses := true, named := ["math/bits.overflowError"], apart := false, narrowed := true }
def SturmQueriesUptoSaid : Prop := sturmQueriesUptoRow.holds Tryz.pinned (OpenSpec.upto sturmQueriesSpec)

/-- 'cylinderlaw16.IsolateKnown', WHERE WHAT IT READS IS OF BULK AT MOST 1048576: true; the input reads as it did. -/
def isolateKnownUptoRow : OpenClaim := { program := "ytipocabbjinbhaagreat", sum := "f6918d2706d5653f986e63506d4bcdf1f15b57dd527b15793bdae7fe9c5f1d54", func := "cylinder/cylinderlaw16.IsolateKnown", spec := "isolateKnown", unfollowed := true, recurses := true, named := ["math/bits.overflowError"], apart := false, narrowed := true }
def IsolateKnownUptoSaid : Prop := isolateKnownUptoRow.holds Tryz.pinned (OpenSpec.upto isolateKnownSpec)

/-- 'cylinderlaw17.DescartesBounds', WHERE WHAT IT READS IS OF BULK AT MOST 1048576: true; the input reads as it did. -/
def descartesBoundsUptoRow : OpenClaim := { program := "ytipocabbjinbhaagreat", sum := "f6918d2706d5653f986e63506d4bcdf1f15b57dd527b15793bdae7fe9c5f1d54", func := "cylinder/cylinderlaw17.DescartesBounds", spec := "descartesBounds", unfollowed := true, recurses := true, named := ["math/bits.overflowError"], apart := false, narrowed := true }
def DescartesBoundsUptoSaid : Prop := descartesBoundsUptoRow.holds Tryz.pinned (OpenSpec.upto descartesBoundsSpec)

/-- 'cylinderlaw17.DescartesExact', WHERE WHAT IT READS IS OF BULK AT MOST 1048576: true; the input reads as it did. -/
def descartesExactUptoRow : OpenClaim := { program := "ytipocabbjinbhaagreat", sum := "f6918d2706d5653f986e63506d4bcdf1f15b57dd527b15793bdae7fe9c5f1d54", func := "cylinder/cylinderlaw17.DescartesExact", spec := "descartesExact", unfollowed := true, recurses := true, named := ["math/bits.overflowError"], apart := false, narrowed := true }
def DescartesExactUptoSaid : Prop := descartesExactUptoRow.holds Tryz.pinned (OpenSpec.upto descartesExactSpec)

end Rows
end Go.Proofs.YtipocabbjinbhaaGreat
