/-
  No cell of these rows narrows 'for every input' (looked for: loops, veiled, ifaces, maps, wideKeys, modest, calm, conditions, laid).
  DERIVED. THE GIVEN ROWS OF THIS SEAT. 5 by the template 'for every input the law returns true; each argument reads behind the call as it read before'; 0 by the template 'total and deterministic' (their statements: YtccapbajbniknaaGreatTotals.lean).
  GIVEN WITH THE SEED: the statements are not yours to turn. If you find one false, say at which input.
  Laid BY PROGRAM, IN A SANDBOX (cutbox-rows.mjs): the forced cells as the released guide's own fill.sh prints them over the translation 5bbc3519acdd4a42… (all of the seat's roots in one cut). By AI agents, Wed Nov 11 2026. No macro, syntax, notation, axiom, sorry.
-/
import Derived.Test.YtccapbajbniknaaGreatChecked
import GoSem.Claim
import GoSem.ClaimJoined
import GoSem.ClaimMapViews
import Derived.JoinedTies
import Derived.KernelRfl
namespace Go.Proofs.YtccapbajbniknaaGreat
/- THE CELL 'sum', in the pinned program and in every row, IS THE sha256 OF THE DUMP (.gsa) THAT YtccapbajbniknaaGreatProg.lean LOADS. Nothing in Lean hashes anything: it is a label: what it is worth is what the hold of that sum in a sandbox is worth. -/
noncomputable def Tryz.pinned : Pinned := { name := "ytccapbajbniknaagreat", sum := "5bbc3519acdd4a42cd543d02268306684fe13041ffeac4df79f1c8584e862bfc", checked := Tryz.checked }
namespace Rows
def none {H : Type} : Left H := { results := [], args := [] }

/-- 'cylinderlaw14.RootboundSeparation': WHATEVER THE INPUT: true; the input reads as it did. -/
def rootboundSeparationSpec : ChangeSpec := { name := "rootboundSeparation", fn := fun _ => fun
  | [d] => { results := [.lit (.bool true)], args := [d] }
  | _ => none }
def rootboundSeparationRow : OpenClaim := { program := "ytccapbajbniknaagreat", sum := "5bbc3519acdd4a42cd543d02268306684fe13041ffeac4df79f1c8584e862bfc", func := "cylinder/cylinderlaw14.RootboundSeparation", spec := "rootboundSeparation", unfollowed := true, recurses := true, named := ["math/bits.overflowError"], apart := false }
def RootboundSeparationSaid : Prop := rootboundSeparationRow.holds Tryz.pinned (OpenSpec.ofChange rootboundSeparationSpec)

/-- ITS FALSE NEIGHBOUR: 'it returns false'. Refute it at one input. -/
def rootboundSeparationWrong : ChangeSpec := { name := "rootboundSeparation", fn := fun _ => fun
  | [d] => { results := [.lit (.bool false)], args := [d] }
  | _ => none }
def RootboundSeparationWrongFalsely : Prop := rootboundSeparationRow.holds Tryz.pinned (OpenSpec.ofChange rootboundSeparationWrong)

/-- 'cylinderlaw15.SturmSigns': WHATEVER THE INPUT: true; the input reads as it did. -/
def sturmSignsSpec : ChangeSpec := { name := "sturmSigns", fn := fun _ => fun
  | [d1, d2] => { results := [.lit (.bool true)], args := [d1, d2] }
  | _ => none }
def sturmSignsRow : OpenClaim := { program := "ytccapbajbniknaagreat", sum := "5bbc3519acdd4a42cd543d02268306684fe13041ffeac4df79f1c8584e862bfc", func := "cylinder/cylinderlaw15.SturmSigns", spec := "sturmSigns", unfollowed := true, recurses := true, named := ["math/bits.overflowError"], apart := false }
def SturmSignsSaid : Prop := sturmSignsRow.holds Tryz.pinned (OpenSpec.ofChange sturmSignsSpec)

/-- ITS FALSE NEIGHBOUR: 'it returns false'. Refute it at one input. -/
def sturmSignsWrong : ChangeSpec := { name := "sturmSigns", fn := fun _ => fun
  | [d1, d2] => { results := [.lit (.bool false)], args := [d1, d2] }
  | _ => none }
def SturmSignsWrongFalsely : Prop := sturmSignsRow.holds Tryz.pinned (OpenSpec.ofChange sturmSignsWrong)

/-- 'cylinderlaw15.SturmCounts': WHATEVER THE INPUT: true; the input reads as it did. -/
def sturmCountsSpec : ChangeSpec := { name := "sturmCounts", fn := fun _ => fun
  | [d1, d2, d3] => { results := [.lit (.bool true)], args := [d1, d2, d3] }
  | _ => none }
def sturmCountsRow : OpenClaim := { program := "ytccapbajbniknaagreat", sum := "5bbc3519acdd4a42cd543d02268306684fe13041ffeac4df79f1c8584e862bfc", func := "cylinder/cylinderlaw15.SturmCounts", spec := "sturmCounts", unfollowed := true, recurses := true, named := ["math/bits.overflowError"], apart := false }
def SturmCountsSaid : Prop := sturmCountsRow.holds Tryz.pinned (OpenSpec.ofChange sturmCountsSpec)

/-- ITS FALSE NEIGHBOUR: 'it returns false'. Refute it at one input. -/
def sturmCountsWrong : ChangeSpec := { name := "sturmCounts", fn := fun _ => fun
  | [d1, d2, d3] => { results := [.lit (.bool false)], args := [d1, d2, d3] }
  | _ => none }
def SturmCountsWrongFalsely : Prop := sturmCountsRow.holds Tryz.pinned (OpenSpec.ofChange sturmCountsWrong)

/-- 'cylinderlaw15.SturmQueries': WHATEVER THE INPUT: true; the input reads as it did. -/
def sturmQueriesSpec : ChangeSpec := { name := "sturmQueries", fn := fun _ => fun
  | [d1, d2, d3] => { results := [.lit (.bool true)], args := [d1, d2, d3] }
  | _ => none }
def sturmQueriesRow : OpenClaim := { program := "ytccapbajbniknaagreat", sum := "5bbc3519acdd4a42cd543d02268306684fe13041ffeac4df79f1c8584e862bfc", func := "cylinder/cylinderlaw15.SturmQueries", spec := "sturmQueries", unfollowed := true, recurses := true, named := ["math/bits.overflowError"], apart := false }
def SturmQueriesSaid : Prop := sturmQueriesRow.holds Tryz.pinned (OpenSpec.ofChange sturmQueriesSpec)

/-- ITS FALSE NEIGHBOUR: 'it returns false'. Refute it at one input. -/
def sturmQueriesWrong : ChangeSpec := { name := "sturmQueries", fn := fun _ => fun
  | [d1, d2, d3] => { results := [.lit (.bool false)], args := [d1, d2, d3] }
  | _ => none }
def SturmQueriesWrongFalsely : Prop := sturmQueriesRow.holds Tryz.pinned (OpenSpec.ofChange sturmQueriesWrong)

/-- 'cylinderlaw15.SturmAdds': WHATEVER THE INPUT: true; the input reads as it did. -/
def sturmAddsSpec : ChangeSpec := { name := "sturmAdds", fn := fun _ => fun
  | [d1, d2, d3] => { results := [.lit (.bool true)], args := [d1, d2, d3] }
  | _ => none }
def sturmAddsRow : OpenClaim := { program := "ytccapbajbniknaagreat", sum := "5bbc3519acdd4a42cd543d02268306684fe13041ffeac4df79f1c8584e862bfc", func := "cylinder/cylinderlaw15.SturmAdds", spec := "sturmAdds", unfollowed := true, recurses := true, named := ["math/bits.overflowError"], apart := false }
def SturmAddsSaid : Prop := sturmAddsRow.holds Tryz.pinned (OpenSpec.ofChange sturmAddsSpec)

/-- ITS FALSE NEIGHBOUR: 'it returns false'. Refute it at one input. -/
def sturmAddsWrong : ChangeSpec := { name := "sturmAdds", fn := fun _ => fun
  | [d1, d2, d3] => { results := [.lit (.bool false)], args := [d1, d2, d3] }
  | _ => none }
def SturmAddsWrongFalsely : Prop := sturmAddsRow.holds Tryz.pinned (OpenSpec.ofChange sturmAddsWrong)

/- THE SECOND FORM. 'bulk': how many values and letters a reading holds, each counted each time it is reached (what is shared counts as often as it is met; a slice's spare places count too). A statement '..UptoSaid' is the law's where the arguments, and the package variables that the reading takes, are together of bulk at most 1048576: NARROWER than '..Said'. Prove '..Said' where nothing that the law and all that it calls make is longer than what came in: it says more and counts as full. Else prove '..UptoSaid'. A law counts once. -/
mutual
def uptoBulk {H : Type} : DataW H → Nat
  | .lit (.string bytes) => bytes.length + 1
  | .lit _ => 1
  | .nil => 1
  | .ptr d => uptoBulk d + 1
  | .slice elems spare => uptoBulkAll elems + uptoBulkAll spare + 1
  | .agg parts => uptoBulkAll parts + 1
  | .iface _ d => uptoBulk d + 1
  | .map entries => uptoBulkEntries entries + 1
  | .held _ => 1
def uptoBulkAll {H : Type} : List (DataW H) → Nat
  | [] => 0
  | d :: r => uptoBulk d + uptoBulkAll r
def uptoBulkEntries {H : Type} : List (Lit × DataW H) → Nat
  | [] => 0
  | x :: r => uptoBulkEntry x + uptoBulkEntries r
def uptoBulkEntry {H : Type} : Lit × DataW H → Nat
  | (.string bytes, d) => bytes.length + uptoBulk d + 1
  | (_, d) => uptoBulk d + 1
 end
def uptoSmall : (H : Type) → List (DataW H) → Bool := fun _ ds => decide (uptoBulkAll ds ≤ 1048576)
def OpenSpec.upto (s : _root_.Go.ChangeSpec) : _root_.Go.OpenSpec := { _root_.Go.OpenSpec.ofChange s with cond := some uptoSmall }

/-- 'cylinderlaw14.RootboundSeparation', WHERE WHAT IT READS IS OF BULK AT MOST 1048576: true; the input reads as it did. -/
def rootboundSeparationUptoRow : OpenClaim := { program := "ytccapbajbniknaagreat", sum := "5bbc3519acdd4a42cd543d02268306684fe13041ffeac4df79f1c8584e862bfc", func := "cylinder/cylinderlaw14.RootboundSeparation", spec := "rootboundSeparation", unfollowed := true, recurses := true, named := ["math/bits.overflowError"], apart := false, narrowed := true }
def RootboundSeparationUptoSaid : Prop := rootboundSeparationUptoRow.holds Tryz.pinned (OpenSpec.upto rootboundSeparationSpec)

/-- 'cylinderlaw15.SturmSigns', WHERE WHAT IT READS IS OF BULK AT MOST 1048576: true; the input reads as it did. -/
def sturmSignsUptoRow : OpenClaim := { program := "ytccapbajbniknaagreat", sum := "5bbc3519acdd4a42cd543d02268306684fe13041ffeac4df79f1c8584e862bfc", func := "cylinder/cylinderlaw15.SturmSigns", spec := "sturmSigns", unfollowed := true, recurses := true, named := ["math/bits.overflowError"], apart := false, narrowed := true }
def SturmSignsUptoSaid : Prop := sturmSignsUptoRow.holds Tryz.pinned (OpenSpec.upto sturmSignsSpec)

/-- 'cylinderlaw15.SturmCounts', WHERE WHAT IT READS IS OF BULK AT MOST 1048576: true; the input reads as it did. -/
def sturmCountsUptoRow : OpenClaim := { program := "ytccapbajbniknaagreat", sum := "5bbc3519acdd4a42cd543d02268306684fe13041ffeac4df79f1c8584e862bfc", func := "cylinder/cylinderlaw15.SturmCounts", spec := "sturmCounts", unfollowed := true, recurses := true, named := ["math/bits.overflowError"], apart := false, narrowed := true }
def SturmCountsUptoSaid : Prop := sturmCountsUptoRow.holds Tryz.pinned (OpenSpec.upto sturmCountsSpec)

/-- 'cylinderlaw15.SturmQueries', WHERE WHAT IT READS IS OF BULK AT MOST 1048576: true; the input reads as it did. -/
def sturmQueriesUptoRow : OpenClaim := { program := "ytccapbajbniknaagreat", sum := "5bbc3519acdd4a42cd543d02268306684fe13041ffeac4df79f1c8584e862bfc", func := "cylinder/cylinderlaw15.SturmQueries", spec := "sturmQueries", unfollowed := true, recurses := true, named := ["math/bits.overflowError"], apart := false, narrowed := true }
def SturmQueriesUptoSaid : Prop := sturmQueriesUptoRow.holds Tryz.pinned (OpenSpec.upto sturmQueriesSpec)

/-- 'cylinderlaw15.SturmAdds', WHERE WHAT IT READS IS OF BULK AT MOST 1048576: true; the input reads as it did. -/
def sturmAddsUptoRow : OpenClaim := { program := "ytccapbajbniknaagreat", sum := "5bbc3519acdd4a42cd543d02268306684fe13041ffeac4df79f1c8584e862bfc", func := "cylinder/cylinderlaw15.SturmAdds", spec := "sturmAdds", unfollowed := true, recurses := true, named := ["math/bits.overflowError"], apart := false, narrowed := true }
def SturmAddsUptoSaid : Prop := sturmAddsUptoRow.holds Tryz.pinned (OpenSpec.upto sturmAddsSpec)

end Rows
end Go.Proofs.YtccapbajbniknaaGreat
