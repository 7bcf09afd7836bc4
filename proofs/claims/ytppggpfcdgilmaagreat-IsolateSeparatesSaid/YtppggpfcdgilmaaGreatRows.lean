/-
  No cell of these rows narrows 'for every input' (looked for: loops, veiled, ifaces, maps, wideKeys, modest, calm, conditions, laid).
  DERIVED. THE GIVEN ROWS OF THIS SEAT. 7 by the template 'for every input the law returns true; each argument reads behind the call as it read before'; 0 by the template 'total and deterministic' (their statements: YtppggpfcdgilmaaGreatTotals.lean).
  GIVEN WITH THE SEED: the statements are not yours to turn. If you find one false, say at which input.
  Laid BY PROGRAM, IN A SANDBOX (cutbox-rows.mjs): the forced cells as the released guide's own fill.sh prints them over the translation e1413d07a269ffc5… (all of the seat's roots in one cut). By AI agents, Wed Nov 11 2026. No macro, syntax, notation, axiom, sorry.
-/
import Derived.Test.YtppggpfcdgilmaaGreatChecked
import GoSem.Claim
import GoSem.ClaimJoined
import GoSem.ClaimMapViews
import Derived.JoinedTies
import Derived.KernelRfl
namespace Go.Proofs.YtppggpfcdgilmaaGreat
/- THE CELL 'sum', in the pinned program and in every row, IS THE sha256 OF THE DUMP (.gsa) THAT YtppggpfcdgilmaaGreatProg.lean LOADS. Nothing in Lean hashes anything: it is a label: what it is worth is what the hold of that sum in a sandbox is worth. -/
noncomputable def Tryz.pinned : Pinned := { name := "ytppggpfcdgilmaagreat", sum := "e1413d07a269ffc58efe30dc97f7ae804e6651188845314624f109d8ba66d691", checked := Tryz.checked }
namespace Rows
def none {H : Type} : Left H := { results := [], args := [] }

/-- 'cylinderlaw16.IsolateValid': WHATEVER THE INPUT: true; the input reads as it did. -/
def isolateValidSpec : ChangeSpec := { name := "isolateValid", fn := fun _ => fun
  | [d1, d2] => { results := [.lit (.bool true)], args := [d1, d2] }
  | _ => none }
def isolateValidRow : OpenClaim := { program := "ytppggpfcdgilmaagreat", sum := "e1413d07a269ffc58efe30dc97f7ae804e6651188845314624f109d8ba66d691", func := "cylinder/cylinderlaw16.IsolateValid", spec := "isolateValid", unfollowed := true, recurses := true, named := ["math/bits.overflowError"], apart := false }
def IsolateValidSaid : Prop := isolateValidRow.holds Tryz.pinned (OpenSpec.ofChange isolateValidSpec)

/-- ITS FALSE NEIGHBOUR: 'it returns false'. Refute it at one input. -/
def isolateValidWrong : ChangeSpec := { name := "isolateValid", fn := fun _ => fun
  | [d1, d2] => { results := [.lit (.bool false)], args := [d1, d2] }
  | _ => none }
def IsolateValidWrongFalsely : Prop := isolateValidRow.holds Tryz.pinned (OpenSpec.ofChange isolateValidWrong)

/-- 'cylinderlaw16.IsolateCommon': WHATEVER THE INPUT: true; the input reads as it did. -/
def isolateCommonSpec : ChangeSpec := { name := "isolateCommon", fn := fun _ => fun
  | [d] => { results := [.lit (.bool true)], args := [d] }
  | _ => none }
def isolateCommonRow : OpenClaim := { program := "ytppggpfcdgilmaagreat", sum := "e1413d07a269ffc58efe30dc97f7ae804e6651188845314624f109d8ba66d691", func := "cylinder/cylinderlaw16.IsolateCommon", spec := "isolateCommon", unfollowed := true, recurses := true, named := ["math/bits.overflowError"], apart := false }
def IsolateCommonSaid : Prop := isolateCommonRow.holds Tryz.pinned (OpenSpec.ofChange isolateCommonSpec)

/-- ITS FALSE NEIGHBOUR: 'it returns false'. Refute it at one input. -/
def isolateCommonWrong : ChangeSpec := { name := "isolateCommon", fn := fun _ => fun
  | [d] => { results := [.lit (.bool false)], args := [d] }
  | _ => none }
def IsolateCommonWrongFalsely : Prop := isolateCommonRow.holds Tryz.pinned (OpenSpec.ofChange isolateCommonWrong)

/-- 'cylinderlaw16.IsolateSeparates': WHATEVER THE INPUT: true; the input reads as it did. -/
def isolateSeparatesSpec : ChangeSpec := { name := "isolateSeparates", fn := fun _ => fun
  | [d] => { results := [.lit (.bool true)], args := [d] }
  | _ => none }
def isolateSeparatesRow : OpenClaim := { program := "ytppggpfcdgilmaagreat", sum := "e1413d07a269ffc58efe30dc97f7ae804e6651188845314624f109d8ba66d691", func := "cylinder/cylinderlaw16.IsolateSeparates", spec := "isolateSeparates", unfollowed := true, recurses := true, named := ["math/bits.overflowError"], apart := false }
def IsolateSeparatesSaid : Prop := isolateSeparatesRow.holds Tryz.pinned (OpenSpec.ofChange isolateSeparatesSpec)

/-- ITS FALSE NEIGHBOUR: 'it returns false'. Refute it at one input. -/
def isolateSeparatesWrong : ChangeSpec := { name := "isolateSeparates", fn := fun _ => fun
  | [d] => { results := [.lit (.bool false)], args := [d] }
  | _ => none }
def IsolateSeparatesWrongFalsely : Prop := isolateSeparatesRow.holds Tryz.pinned (OpenSpec.ofChange isolateSeparatesWrong)

/-- 'cylinderlaw16.IsolateCompletes': WHATEVER THE INPUT: true; the input reads as it did. -/
def isolateCompletesSpec : ChangeSpec := { name := "isolateCompletes", fn := fun _ => fun
  | [d] => { results := [.lit (.bool true)], args := [d] }
  | _ => none }
def isolateCompletesRow : OpenClaim := { program := "ytppggpfcdgilmaagreat", sum := "e1413d07a269ffc58efe30dc97f7ae804e6651188845314624f109d8ba66d691", func := "cylinder/cylinderlaw16.IsolateCompletes", spec := "isolateCompletes", unfollowed := true, recurses := true, named := ["math/bits.overflowError"], apart := false }
def IsolateCompletesSaid : Prop := isolateCompletesRow.holds Tryz.pinned (OpenSpec.ofChange isolateCompletesSpec)

/-- ITS FALSE NEIGHBOUR: 'it returns false'. Refute it at one input. -/
def isolateCompletesWrong : ChangeSpec := { name := "isolateCompletes", fn := fun _ => fun
  | [d] => { results := [.lit (.bool false)], args := [d] }
  | _ => none }
def IsolateCompletesWrongFalsely : Prop := isolateCompletesRow.holds Tryz.pinned (OpenSpec.ofChange isolateCompletesWrong)

/-- 'cylinderlaw16.IsolateParts': WHATEVER THE INPUT: true; the input reads as it did. -/
def isolatePartsSpec : ChangeSpec := { name := "isolateParts", fn := fun _ => fun
  | [d1, d2] => { results := [.lit (.bool true)], args := [d1, d2] }
  | _ => none }
def isolatePartsRow : OpenClaim := { program := "ytppggpfcdgilmaagreat", sum := "e1413d07a269ffc58efe30dc97f7ae804e6651188845314624f109d8ba66d691", func := "cylinder/cylinderlaw16.IsolateParts", spec := "isolateParts", unfollowed := true, recurses := true, named := ["math/bits.overflowError"], apart := false }
def IsolatePartsSaid : Prop := isolatePartsRow.holds Tryz.pinned (OpenSpec.ofChange isolatePartsSpec)

/-- ITS FALSE NEIGHBOUR: 'it returns false'. Refute it at one input. -/
def isolatePartsWrong : ChangeSpec := { name := "isolateParts", fn := fun _ => fun
  | [d1, d2] => { results := [.lit (.bool false)], args := [d1, d2] }
  | _ => none }
def IsolatePartsWrongFalsely : Prop := isolatePartsRow.holds Tryz.pinned (OpenSpec.ofChange isolatePartsWrong)

/-- 'cylinderlaw16.IsolateRejects': WHATEVER THE INPUT: true; the input reads as it did. -/
def isolateRejectsSpec : ChangeSpec := { name := "isolateRejects", fn := fun _ => fun
  | [d1, d2] => { results := [.lit (.bool true)], args := [d1, d2] }
  | _ => none }
def isolateRejectsRow : OpenClaim := { program := "ytppggpfcdgilmaagreat", sum := "e1413d07a269ffc58efe30dc97f7ae804e6651188845314624f109d8ba66d691", func := "cylinder/cylinderlaw16.IsolateRejects", spec := "isolateRejects", unfollowed := true, recurses := true, named := ["math/bits.overflowError"], apart := false }
def IsolateRejectsSaid : Prop := isolateRejectsRow.holds Tryz.pinned (OpenSpec.ofChange isolateRejectsSpec)

/-- ITS FALSE NEIGHBOUR: 'it returns false'. Refute it at one input. -/
def isolateRejectsWrong : ChangeSpec := { name := "isolateRejects", fn := fun _ => fun
  | [d1, d2] => { results := [.lit (.bool false)], args := [d1, d2] }
  | _ => none }
def IsolateRejectsWrongFalsely : Prop := isolateRejectsRow.holds Tryz.pinned (OpenSpec.ofChange isolateRejectsWrong)

/-- 'cylinderlaw16.IsolateGaps': WHATEVER THE INPUT: true; the input reads as it did. -/
def isolateGapsSpec : ChangeSpec := { name := "isolateGaps", fn := fun _ => fun
  | [d] => { results := [.lit (.bool true)], args := [d] }
  | _ => none }
def isolateGapsRow : OpenClaim := { program := "ytppggpfcdgilmaagreat", sum := "e1413d07a269ffc58efe30dc97f7ae804e6651188845314624f109d8ba66d691", func := "cylinder/cylinderlaw16.IsolateGaps", spec := "isolateGaps", unfollowed := true, recurses := true, named := ["math/bits.overflowError"], apart := false }
def IsolateGapsSaid : Prop := isolateGapsRow.holds Tryz.pinned (OpenSpec.ofChange isolateGapsSpec)

/-- ITS FALSE NEIGHBOUR: 'it returns false'. Refute it at one input. -/
def isolateGapsWrong : ChangeSpec := { name := "isolateGaps", fn := fun _ => fun
  | [d] => { results := [.lit (.bool false)], args := [d] }
  | _ => none }
def IsolateGapsWrongFalsely : Prop := isolateGapsRow.holds Tryz.pinned (OpenSpec.ofChange isolateGapsWrong)

/- THE SECOND FORM. 'bulk': how many values and letters a reading holds, each counted each time it is reached (what is shared counts as often as it is met; a slice's spare places count too). A statement '..UptoSaid' is the law's where the arguments, and the package variables that the reading takes, are together of bulk at most 1048576: NARROWER than '..Said'. Prove '..Said' where nothing that the law and all that it calls make is longer than what came in: it says more and counts as full. Else prove '..UptoSaid'. A law counts once. -/
mutual
def uptoBulk {H : Type} : DataW H → Nat
  | .lit (.string bytes) => bytes.length + 1
  | .lit _ => 1
  | .nil => 1
  | .ptr d => uptoBulk d + 1
  | .slice elems spare => uptoBulkAll elems + uptoBulkAll spare + 1
  | .agg parts => uptoBulkAll parts + 1
  | .iface _ d => uptoBulk d + 1
  | .map entries => uptoBulkEntries entries + 1
  | .held _ => 1
def uptoBulkAll {H : Type} : List (DataW H) → Nat
  | [] => 0
  | d :: r => uptoBulk d + uptoBulkAll r
def uptoBulkEntries {H : Type} : List (Lit × DataW H) → Nat
  | [] => 0
  | x :: r => uptoBulkEntry x + uptoBulkEntries r
def uptoBulkEntry {H : Type} : Lit × DataW H → Nat
  | (.string bytes, d) => bytes.length + uptoBulk d + 1
  | (_, d) => uptoBulk d + 1
 end
def uptoSmall : (H : Type) → List (DataW H) → Bool := fun _ ds => decide (uptoBulkAll ds ≤ 1048576)
def OpenSpec.upto (s : _root_.Go.ChangeSpec) : _root_.Go.OpenSpec := { _root_.Go.OpenSpec.ofChange s with cond := some uptoSmall }

/-- 'cylinderlaw16.IsolateValid', WHERE WHAT IT READS IS OF BULK AT MOST 1048576: true; the input reads as it did. -/
def isolateValidUptoRow : OpenClaim := { program := "ytppggpfcdgilmaagreat", sum := "e1413d07a269ffc58efe30dc97f7ae804e6651188845314624f109d8ba66d691", func := "cylinder/cylinderlaw16.IsolateValid", spec := "isolateValid", unfollowed := true, recurses := true, named := ["math/bits.overflowError"], apart := false, narrowed := true }
def IsolateValidUptoSaid : Prop := isolateValidUptoRow.holds Tryz.pinned (OpenSpec.upto isolateValidSpec)

/-- 'cylinderlaw16.IsolateCommon', WHERE WHAT IT READS IS OF BULK AT MOST 1048576: true; the input reads as it did. -/
def isolateCommonUptoRow : OpenClaim := { program := "ytppggpfcdgilmaagreat", sum := "e1413d07a269ffc58efe30dc97f7ae804e6651188845314624f109d8ba66d691", func := "cylinder/cylinderlaw16.IsolateCommon", spec := "isolateCommon", unfollowed := true, recurses := true, named := ["math/bits.overflowError"], apart := false, narrowed := true }
def IsolateCommonUptoSaid : Prop := isolateCommonUptoRow.holds Tryz.pinned (OpenSpec.upto isolateCommonSpec)

/-- 'cylinderlaw16.IsolateSeparates', WHERE WHAT IT READS IS OF BULK AT MOST 1048576: true; the input reads as it did. -/
def isolateSeparatesUptoRow : OpenClaim := { program := "ytppggpfcdgilmaagreat", sum := "e1413d07a269ffc58efe30dc97f7ae804e6651188845314624f109d8ba66d691", func := "cylinder/cylinderlaw16.IsolateSeparates", spec := "isolateSeparates", unfollowed := true, recurses := true, named := ["math/bits.overflowError"], apart := false, narrowed := true }
def IsolateSeparatesUptoSaid : Prop := isolateSeparatesUptoRow.holds Tryz.pinned (OpenSpec.upto isolateSeparatesSpec)

/-- 'cylinderlaw16.IsolateCompletes', WHERE WHAT IT READS IS OF BULK AT MOST 1048576: true; the input reads as it did. -/
def isolateCompletesUptoRow : OpenClaim := { program := "ytppggpfcdgilmaagreat", sum := "e1413d07a269ffc58efe30dc97f7ae804e6651188845314624f109d8ba66d691", func := "cylinder/cylinderlaw16.IsolateCompletes", spec := "isolateCompletes", unfollowed := true, recurses := true, named := ["math/bits.overflowError"], apart := false, narrowed := true }
def IsolateCompletesUptoSaid : Prop := isolateCompletesUptoRow.holds Tryz.pinned (OpenSpec.upto isolateCompletesSpec)

/-- 'cylinderlaw16.IsolateParts', WHERE WHAT IT READS IS OF BULK AT MOST 1048576: true; the input reads as it did. -/
def isolatePartsUptoRow : OpenClaim := { program := "ytppggpfcdgilmaagreat", sum := "e1413d07a269ffc58efe30dc97f7ae804e6651188845314624f109d8ba66d691", func := "cylinder/cylinderlaw16.IsolateParts", spec := "isolateParts", unfollowed := true, recurses := true, named := ["math/bits.overflowError"], apart := false, narrowed := true }
def IsolatePartsUptoSaid : Prop := isolatePartsUptoRow.holds Tryz.pinned (OpenSpec.upto isolatePartsSpec)

/-- 'cylinderlaw16.IsolateRejects', WHERE WHAT IT READS IS OF BULK AT MOST 1048576: true; the input reads as it did. -/
def isolateRejectsUptoRow : OpenClaim := { program := "ytppggpfcdgilmaagreat", sum := "e1413d07a269ffc58efe30dc97f7ae804e6651188845314624f109d8ba66d691", func := "cylinder/cylinderlaw16.IsolateRejects", spec := "isolateRejects", unfollowed := true, recurses := true, named := ["math/bits.overflowError"], apart := false, narrowed := true }
def IsolateRejectsUptoSaid : Prop := isolateRejectsUptoRow.holds Tryz.pinned (OpenSpec.upto isolateRejectsSpec)

/-- 'cylinderlaw16.IsolateGaps', WHERE WHAT IT READS IS OF BULK AT MOST 1048576: true; the input reads as it did. -/
def isolateGapsUptoRow : OpenClaim := { program := "ytppggpfcdgilmaagreat", sum := "e1413d07a269ffc58efe30dc97f7ae804e6651188845314624f109d8ba66d691", func := "cylinder/cylinderlaw16.IsolateGaps", spec := "isolateGaps", unfollowed := true, recurses := true, named := ["math/bits.overflowError"], apart := false, narrowed := true }
def IsolateGapsUptoSaid : Prop := isolateGapsUptoRow.holds Tryz.pinned (OpenSpec.upto isolateGapsSpec)

end Rows
end Go.Proofs.YtppggpfcdgilmaaGreat
