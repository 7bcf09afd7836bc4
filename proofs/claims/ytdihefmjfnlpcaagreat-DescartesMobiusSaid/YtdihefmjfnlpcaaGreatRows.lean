/-
  No cell of these rows narrows 'for every input' (looked for: loops, veiled, ifaces, maps, wideKeys, modest, calm, conditions, laid).
  DERIVED. THE GIVEN ROWS OF THIS SEAT. 5 by the template 'for every input the law returns true; each argument reads behind the call as it read before'; 0 by the template 'total and deterministic' (their statements: YtdihefmjfnlpcaaGreatTotals.lean).
  GIVEN WITH THE SEED: the statements are not yours to turn. If you find one false, say at which input.
  Laid BY PROGRAM, IN A SANDBOX (cutbox-rows.mjs): the forced cells as the released guide's own fill.sh prints them over the translation 60523b171ac32bff… (all of the seat's roots in one cut). By AI agents, Wed Nov 11 2026. No macro, syntax, notation, axiom, sorry.
-/
import Derived.Test.YtdihefmjfnlpcaaGreatChecked
import GoSem.Claim
import GoSem.ClaimJoined
import GoSem.ClaimMapViews
import Derived.JoinedTies
import Derived.KernelRfl
namespace Go.Proofs.YtdihefmjfnlpcaaGreat
/- THE CELL 'sum', in the pinned program and in every row, IS THE sha256 OF THE DUMP (.gsa) THAT YtdihefmjfnlpcaaGreatProg.lean LOADS. Nothing in Lean hashes anything: it is a label: what it is worth is what the hold of that sum in a sandbox is worth. -/
noncomputable def Tryz.pinned : Pinned := { name := "ytdihefmjfnlpcaagreat", sum := "60523b171ac32bffe025eb3c77039c16986d76d023844d927032078134895e33", checked := Tryz.checked }
namespace Rows
def none {H : Type} : Left H := { results := [], args := [] }

/-- 'cylinderlaw17.DescartesSides': WHATEVER THE INPUT: true; the input reads as it did. -/
def descartesSidesSpec : ChangeSpec := { name := "descartesSides", fn := fun _ => fun
  | [d] => { results := [.lit (.bool true)], args := [d] }
  | _ => none }
def descartesSidesRow : OpenClaim := { program := "ytdihefmjfnlpcaagreat", sum := "60523b171ac32bffe025eb3c77039c16986d76d023844d927032078134895e33", func := "cylinder/cylinderlaw17.DescartesSides", spec := "descartesSides", unfollowed := true, recurses := true, named := ["math/bits.overflowError"], apart := false }
def DescartesSidesSaid : Prop := descartesSidesRow.holds Tryz.pinned (OpenSpec.ofChange descartesSidesSpec)

/-- ITS FALSE NEIGHBOUR: 'it returns false'. Refute it at one input. -/
def descartesSidesWrong : ChangeSpec := { name := "descartesSides", fn := fun _ => fun
  | [d] => { results := [.lit (.bool false)], args := [d] }
  | _ => none }
def DescartesSidesWrongFalsely : Prop := descartesSidesRow.holds Tryz.pinned (OpenSpec.ofChange descartesSidesWrong)

/-- 'cylinderlaw17.DescartesMobius': WHATEVER THE INPUT: true; the input reads as it did. -/
def descartesMobiusSpec : ChangeSpec := { name := "descartesMobius", fn := fun _ => fun
  | [d1, d2, d3] => { results := [.lit (.bool true)], args := [d1, d2, d3] }
  | _ => none }
def descartesMobiusRow : OpenClaim := { program := "ytdihefmjfnlpcaagreat", sum := "60523b171ac32bffe025eb3c77039c16986d76d023844d927032078134895e33", func := "cylinder/cylinderlaw17.DescartesMobius", spec := "descartesMobius", unfollowed := true, recurses := true, named := ["math/bits.overflowError"], apart := false }
def DescartesMobiusSaid : Prop := descartesMobiusRow.holds Tryz.pinned (OpenSpec.ofChange descartesMobiusSpec)

/-- ITS FALSE NEIGHBOUR: 'it returns false'. Refute it at one input. -/
def descartesMobiusWrong : ChangeSpec := { name := "descartesMobius", fn := fun _ => fun
  | [d1, d2, d3] => { results := [.lit (.bool false)], args := [d1, d2, d3] }
  | _ => none }
def DescartesMobiusWrongFalsely : Prop := descartesMobiusRow.holds Tryz.pinned (OpenSpec.ofChange descartesMobiusWrong)

/-- 'cylinderlaw17.DescartesMoves': WHATEVER THE INPUT: true; the input reads as it did. -/
def descartesMovesSpec : ChangeSpec := { name := "descartesMoves", fn := fun _ => fun
  | [d1, d2, d3] => { results := [.lit (.bool true)], args := [d1, d2, d3] }
  | _ => none }
def descartesMovesRow : OpenClaim := { program := "ytdihefmjfnlpcaagreat", sum := "60523b171ac32bffe025eb3c77039c16986d76d023844d927032078134895e33", func := "cylinder/cylinderlaw17.DescartesMoves", spec := "descartesMoves", unfollowed := true, recurses := true, named := ["math/bits.overflowError"], apart := false }
def DescartesMovesSaid : Prop := descartesMovesRow.holds Tryz.pinned (OpenSpec.ofChange descartesMovesSpec)

/-- ITS FALSE NEIGHBOUR: 'it returns false'. Refute it at one input. -/
def descartesMovesWrong : ChangeSpec := { name := "descartesMoves", fn := fun _ => fun
  | [d1, d2, d3] => { results := [.lit (.bool false)], args := [d1, d2, d3] }
  | _ => none }
def DescartesMovesWrongFalsely : Prop := descartesMovesRow.holds Tryz.pinned (OpenSpec.ofChange descartesMovesWrong)

/-- 'cylinderlaw17.DescartesBudan': WHATEVER THE INPUT: true; the input reads as it did. -/
def descartesBudanSpec : ChangeSpec := { name := "descartesBudan", fn := fun _ => fun
  | [d1, d2] => { results := [.lit (.bool true)], args := [d1, d2] }
  | _ => none }
def descartesBudanRow : OpenClaim := { program := "ytdihefmjfnlpcaagreat", sum := "60523b171ac32bffe025eb3c77039c16986d76d023844d927032078134895e33", func := "cylinder/cylinderlaw17.DescartesBudan", spec := "descartesBudan", unfollowed := true, recurses := true, named := ["math/bits.overflowError"], apart := false }
def DescartesBudanSaid : Prop := descartesBudanRow.holds Tryz.pinned (OpenSpec.ofChange descartesBudanSpec)

/-- ITS FALSE NEIGHBOUR: 'it returns false'. Refute it at one input. -/
def descartesBudanWrong : ChangeSpec := { name := "descartesBudan", fn := fun _ => fun
  | [d1, d2] => { results := [.lit (.bool false)], args := [d1, d2] }
  | _ => none }
def DescartesBudanWrongFalsely : Prop := descartesBudanRow.holds Tryz.pinned (OpenSpec.ofChange descartesBudanWrong)

/-- 'cylinderlaw17.DescartesBernstein': WHATEVER THE INPUT: true; the input reads as it did. -/
def descartesBernsteinSpec : ChangeSpec := { name := "descartesBernstein", fn := fun _ => fun
  | [d1, d2, d3] => { results := [.lit (.bool true)], args := [d1, d2, d3] }
  | _ => none }
def descartesBernsteinRow : OpenClaim := { program := "ytdihefmjfnlpcaagreat", sum := "60523b171ac32bffe025eb3c77039c16986d76d023844d927032078134895e33", func := "cylinder/cylinderlaw17.DescartesBernstein", spec := "descartesBernstein", unfollowed := true, recurses := true, named := ["math/bits.overflowError"], apart := false }
def DescartesBernsteinSaid : Prop := descartesBernsteinRow.holds Tryz.pinned (OpenSpec.ofChange descartesBernsteinSpec)

/-- ITS FALSE NEIGHBOUR: 'it returns false'. Refute it at one input. -/
def descartesBernsteinWrong : ChangeSpec := { name := "descartesBernstein", fn := fun _ => fun
  | [d1, d2, d3] => { results := [.lit (.bool false)], args := [d1, d2, d3] }
  | _ => none }
def DescartesBernsteinWrongFalsely : Prop := descartesBernsteinRow.holds Tryz.pinned (OpenSpec.ofChange descartesBernsteinWrong)

/- THE SECOND FORM. 'bulk': how many values and letters a reading holds, each counted each time it is reached (what is shared counts as often as it is met; a slice's spare places count too). A statement '..UptoSaid' is the law's where the arguments, and the package variables that the reading takes, are together of bulk at most 1048576: NARROWER than '..Said'. Prove '..Said' where nothing that the law and all that it calls make is longer than what came in: it says more and counts as full. Else prove '..UptoSaid'. A law counts once. -/
mutual
def uptoBulk {H : Type} : DataW H → Nat
  | .lit (.string bytes) => bytes.length + 1
  | .lit _ => 1
  | .nil => 1
  | .ptr d => uptoBulk d + 1
  | .slice elems spare => uptoBulkAll elems + uptoBulkAll spare + 1
  | .agg parts => uptoBulkAll parts + 1
  | .iface _ d => uptoBulk d + 1
  | .map entries => uptoBulkEntries entries + 1
  | .held _ => 1
def uptoBulkAll {H : Type} : List (DataW H) → Nat
  | [] => 0
  | d :: r => uptoBulk d + uptoBulkAll r
def uptoBulkEntries {H : Type} : List (Lit × DataW H) → Nat
  | [] => 0
  | x :: r => uptoBulkEntry x + uptoBulkEntries r
def uptoBulkEntry {H : Type} : Lit × DataW H → Nat
  | (.string bytes, d) => bytes.length + uptoBulk d + 1
  | (_, d) => uptoBulk d + 1
 end
def uptoSmall : (H : Type) → List (DataW H) → Bool := fun _ ds => decide (uptoBulkAll ds ≤ 1048576)
def OpenSpec.upto (s : _root_.Go.ChangeSpec) : _root_.Go.OpenSpec := { _root_.Go.OpenSpec.ofChange s with cond := some uptoSmall }

/-- 'cylinderlaw17.DescartesSides', WHERE WHAT IT READS IS OF BULK AT MOST 1048576: true; the input reads as it did. -/
def descartesSidesUptoRow : OpenClaim := { program := "ytdihefmjfnlpcaagreat", sum := "60523b171ac32bffe025eb3c77039c16986d76d023844d927032078134895e33", func := "cylinder/cylinderlaw17.DescartesSides", spec := "descartesSides", unfollowed := true, recurses := true, named := ["math/bits.overflowError"], apart := false, narrowed := true }
def DescartesSidesUptoSaid : Prop := descartesSidesUptoRow.holds Tryz.pinned (OpenSpec.upto descartesSidesSpec)

/-- 'cylinderlaw17.DescartesMobius', WHERE WHAT IT READS IS OF BULK AT MOST 1048576: true; the input reads as it did. -/
def descartesMobiusUptoRow : OpenClaim := { program := "ytdihefmjfnlpcaagreat", sum := "60523b171ac32bffe025eb3c77039c16986d76d023844d927032078134895e33", func := "cylinder/cylinderlaw17.DescartesMobius", spec := "descartesMobius", unfollowed := true, recurses := true, named := ["math/bits.overflowError"], apart := false, narrowed := true }
def DescartesMobiusUptoSaid : Prop := descartesMobiusUptoRow.holds Tryz.pinned (OpenSpec.upto descartesMobiusSpec)

/-- 'cylinderlaw17.DescartesMoves', WHERE WHAT IT READS IS OF BULK AT MOST 1048576: true; the input reads as it did. -/
def descartesMovesUptoRow : OpenClaim := { program := "ytdihefmjfnlpcaagreat", sum := "60523b171ac32bffe025eb3c77039c16986d76d023844d927032078134895e33", func := "cylinder/cylinderlaw17.DescartesMoves", spec := "descartesMoves", unfollowed := true, recurses := true, named := ["math/bits.overflowError"], apart := false, narrowed := true }
def DescartesMovesUptoSaid : Prop := descartesMovesUptoRow.holds Tryz.pinned (OpenSpec.upto descartesMovesSpec)

/-- 'cylinderlaw17.DescartesBudan', WHERE WHAT IT READS IS OF BULK AT MOST 1048576: true; the input reads as it did. -/
def descartesBudanUptoRow : OpenClaim := { program := "ytdihefmjfnlpcaagreat", sum := "60523b171ac32bffe025eb3c77039c16986d76d023844d927032078134895e33", func := "cylinder/cylinderlaw17.DescartesBudan", spec := "descartesBudan", unfollowed := true, recurses := true, named := ["math/bits.overflowError"], apart := false, narrowed := true }
def DescartesBudanUptoSaid : Prop := descartesBudanUptoRow.holds Tryz.pinned (OpenSpec.upto descartesBudanSpec)

/-- 'cylinderlaw17.DescartesBernstein', WHERE WHAT IT READS IS OF BULK AT MOST 1048576: true; the input reads as it did. -/
def descartesBernsteinUptoRow : OpenClaim := { program := "ytdihefmjfnlpcaagreat", sum := "60523b171ac32bffe025eb3c77039c16986d76d023844d927032078134895e33", func := "cylinder/cylinderlaw17.DescartesBernstein", spec := "descartesBernstein", unfollowed := true, recurses := true, named := ["math/bits.overflowError"], apart := false, narrowed := true }
def DescartesBernsteinUptoSaid : Prop := descartesBernsteinUptoRow.holds Tryz.pinned (OpenSpec.upto descartesBernsteinSpec)

end Rows
end Go.Proofs.YtdihefmjfnlpcaaGreat
