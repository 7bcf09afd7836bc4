/-
  No cell of these rows narrows 'for every input' (looked for: loops, veiled, ifaces, maps, wideKeys, modest, calm, conditions, laid).
  DERIVED. THE GIVEN ROWS OF THIS SEAT. 12 by the template 'for every input the law returns true; each argument reads behind the call as it read before'; 0 by the template 'total and deterministic' (their statements: YtbfddopopajgaaaGreatTotals.lean).
  GIVEN WITH THE SEED: the statements are not yours to turn. If you find one false, say at which input.
  Laid BY PROGRAM, IN A SANDBOX (cutbox-rows.mjs): the forced cells as the released guide's own fill.sh prints them over the translation e201c2f677a8a2ac… (all of the seat's roots in one cut). By AI agents, Wed Nov 11 2026. No macro, syntax, notation, axiom, sorry.
-/
import Derived.Test.YtbfddopopajgaaaGreatChecked
import GoSem.Claim
import GoSem.ClaimJoined
import GoSem.ClaimMapViews
import Derived.JoinedTies
import Derived.KernelRfl
namespace Go.Proofs.YtbfddopopajgaaaGreat
/- THE CELL 'sum', in the pinned program and in every row, IS THE sha256 OF THE DUMP (.gsa) THAT YtbfddopopajgaaaGreatProg.lean LOADS. Nothing in Lean hashes anything: it is a label: what it is worth is what the hold of that sum in a sandbox is worth. -/
noncomputable def Tryz.pinned : Pinned := { name := "ytbfddopopajgaaagreat", sum := "e201c2f677a8a2ace8ddb5aa0fd52f1732b17d0e1cdab1a9f6ed6df7e43fa150", checked := Tryz.checked }
namespace Rows
def none {H : Type} : Left H := { results := [], args := [] }

/-- 'cylinderlaw19.ThomTables': WHATEVER THE INPUT: true; the input reads as it did. -/
def thomTablesSpec : ChangeSpec := { name := "thomTables", fn := fun _ => fun
  | [d] => { results := [.lit (.bool true)], args := [d] }
  | _ => none }
def thomTablesRow : OpenClaim := { program := "ytbfddopopajgaaagreat", sum := "e201c2f677a8a2ace8ddb5aa0fd52f1732b17d0e1cdab1a9f6ed6df7e43fa150", func := "cylinder/cylinderlaw19.ThomTables", spec := "thomTables", unfollowed := true, recurses := true, named := ["math/bits.overflowError"], apart := false }
def ThomTablesSaid : Prop := thomTablesRow.holds Tryz.pinned (OpenSpec.ofChange thomTablesSpec)

/-- ITS FALSE NEIGHBOUR: 'it returns false'. Refute it at one input. -/
def thomTablesWrong : ChangeSpec := { name := "thomTables", fn := fun _ => fun
  | [d] => { results := [.lit (.bool false)], args := [d] }
  | _ => none }
def ThomTablesWrongFalsely : Prop := thomTablesRow.holds Tryz.pinned (OpenSpec.ofChange thomTablesWrong)

/-- 'cylinderlaw18.RefineCompares': WHATEVER THE INPUT: true; the input reads as it did. -/
def refineComparesSpec : ChangeSpec := { name := "refineCompares", fn := fun _ => fun
  | [d1, d2, d3] => { results := [.lit (.bool true)], args := [d1, d2, d3] }
  | _ => none }
def refineComparesRow : OpenClaim := { program := "ytbfddopopajgaaagreat", sum := "e201c2f677a8a2ace8ddb5aa0fd52f1732b17d0e1cdab1a9f6ed6df7e43fa150", func := "cylinder/cylinderlaw18.RefineCompares", spec := "refineCompares", unfollowed := true, recurses := true, named := ["math/bits.overflowError"], apart := false }
def RefineComparesSaid : Prop := refineComparesRow.holds Tryz.pinned (OpenSpec.ofChange refineComparesSpec)

/-- ITS FALSE NEIGHBOUR: 'it returns false'. Refute it at one input. -/
def refineComparesWrong : ChangeSpec := { name := "refineCompares", fn := fun _ => fun
  | [d1, d2, d3] => { results := [.lit (.bool false)], args := [d1, d2, d3] }
  | _ => none }
def RefineComparesWrongFalsely : Prop := refineComparesRow.holds Tryz.pinned (OpenSpec.ofChange refineComparesWrong)

/-- 'cylinderlaw19.ThomRules': WHATEVER THE INPUT: true; the input reads as it did. -/
def thomRulesSpec : ChangeSpec := { name := "thomRules", fn := fun _ => fun
  | [d1, d2] => { results := [.lit (.bool true)], args := [d1, d2] }
  | _ => none }
def thomRulesRow : OpenClaim := { program := "ytbfddopopajgaaagreat", sum := "e201c2f677a8a2ace8ddb5aa0fd52f1732b17d0e1cdab1a9f6ed6df7e43fa150", func := "cylinder/cylinderlaw19.ThomRules", spec := "thomRules", unfollowed := true, recurses := true, named := ["math/bits.overflowError"], apart := false }
def ThomRulesSaid : Prop := thomRulesRow.holds Tryz.pinned (OpenSpec.ofChange thomRulesSpec)

/-- ITS FALSE NEIGHBOUR: 'it returns false'. Refute it at one input. -/
def thomRulesWrong : ChangeSpec := { name := "thomRules", fn := fun _ => fun
  | [d1, d2] => { results := [.lit (.bool false)], args := [d1, d2] }
  | _ => none }
def ThomRulesWrongFalsely : Prop := thomRulesRow.holds Tryz.pinned (OpenSpec.ofChange thomRulesWrong)

/-- 'cylinderlaw18.RefineHalves': WHATEVER THE INPUT: true; the input reads as it did. -/
def refineHalvesSpec : ChangeSpec := { name := "refineHalves", fn := fun _ => fun
  | [d1, d2] => { results := [.lit (.bool true)], args := [d1, d2] }
  | _ => none }
def refineHalvesRow : OpenClaim := { program := "ytbfddopopajgaaagreat", sum := "e201c2f677a8a2ace8ddb5aa0fd52f1732b17d0e1cdab1a9f6ed6df7e43fa150", func := "cylinder/cylinderlaw18.RefineHalves", spec := "refineHalves", unfollowed := true, recurses := true, named := ["math/bits.overflowError"], apart := false }
def RefineHalvesSaid : Prop := refineHalvesRow.holds Tryz.pinned (OpenSpec.ofChange refineHalvesSpec)

/-- ITS FALSE NEIGHBOUR: 'it returns false'. Refute it at one input. -/
def refineHalvesWrong : ChangeSpec := { name := "refineHalves", fn := fun _ => fun
  | [d1, d2] => { results := [.lit (.bool false)], args := [d1, d2] }
  | _ => none }
def RefineHalvesWrongFalsely : Prop := refineHalvesRow.holds Tryz.pinned (OpenSpec.ofChange refineHalvesWrong)

/-- 'cylinderlaw18.RefineSteps': WHATEVER THE INPUT: true; the input reads as it did. -/
def refineStepsSpec : ChangeSpec := { name := "refineSteps", fn := fun _ => fun
  | [d1, d2] => { results := [.lit (.bool true)], args := [d1, d2] }
  | _ => none }
def refineStepsRow : OpenClaim := { program := "ytbfddopopajgaaagreat", sum := "e201c2f677a8a2ace8ddb5aa0fd52f1732b17d0e1cdab1a9f6ed6df7e43fa150", func := "cylinder/cylinderlaw18.RefineSteps", spec := "refineSteps", unfollowed := true, recurses := true, named := ["math/bits.overflowError"], apart := false }
def RefineStepsSaid : Prop := refineStepsRow.holds Tryz.pinned (OpenSpec.ofChange refineStepsSpec)

/-- ITS FALSE NEIGHBOUR: 'it returns false'. Refute it at one input. -/
def refineStepsWrong : ChangeSpec := { name := "refineSteps", fn := fun _ => fun
  | [d1, d2] => { results := [.lit (.bool false)], args := [d1, d2] }
  | _ => none }
def RefineStepsWrongFalsely : Prop := refineStepsRow.holds Tryz.pinned (OpenSpec.ofChange refineStepsWrong)

/-- 'cylinderlaw19.ThomFinds': WHATEVER THE INPUT: true; the input reads as it did. -/
def thomFindsSpec : ChangeSpec := { name := "thomFinds", fn := fun _ => fun
  | [d] => { results := [.lit (.bool true)], args := [d] }
  | _ => none }
def thomFindsRow : OpenClaim := { program := "ytbfddopopajgaaagreat", sum := "e201c2f677a8a2ace8ddb5aa0fd52f1732b17d0e1cdab1a9f6ed6df7e43fa150", func := "cylinder/cylinderlaw19.ThomFinds", spec := "thomFinds", unfollowed := true, recurses := true, named := ["math/bits.overflowError"], apart := false }
def ThomFindsSaid : Prop := thomFindsRow.holds Tryz.pinned (OpenSpec.ofChange thomFindsSpec)

/-- ITS FALSE NEIGHBOUR: 'it returns false'. Refute it at one input. -/
def thomFindsWrong : ChangeSpec := { name := "thomFinds", fn := fun _ => fun
  | [d] => { results := [.lit (.bool false)], args := [d] }
  | _ => none }
def ThomFindsWrongFalsely : Prop := thomFindsRow.holds Tryz.pinned (OpenSpec.ofChange thomFindsWrong)

/-- 'cylinderlaw19.ThomMisses': WHATEVER THE INPUT: true; the input reads as it did. -/
def thomMissesSpec : ChangeSpec := { name := "thomMisses", fn := fun _ => fun
  | [d1, d2, d3] => { results := [.lit (.bool true)], args := [d1, d2, d3] }
  | _ => none }
def thomMissesRow : OpenClaim := { program := "ytbfddopopajgaaagreat", sum := "e201c2f677a8a2ace8ddb5aa0fd52f1732b17d0e1cdab1a9f6ed6df7e43fa150", func := "cylinder/cylinderlaw19.ThomMisses", spec := "thomMisses", unfollowed := true, recurses := true, named := ["math/bits.overflowError"], apart := false }
def ThomMissesSaid : Prop := thomMissesRow.holds Tryz.pinned (OpenSpec.ofChange thomMissesSpec)

/-- ITS FALSE NEIGHBOUR: 'it returns false'. Refute it at one input. -/
def thomMissesWrong : ChangeSpec := { name := "thomMisses", fn := fun _ => fun
  | [d1, d2, d3] => { results := [.lit (.bool false)], args := [d1, d2, d3] }
  | _ => none }
def ThomMissesWrongFalsely : Prop := thomMissesRow.holds Tryz.pinned (OpenSpec.ofChange thomMissesWrong)

/-- 'cylinderlaw18.RefineApart': WHATEVER THE INPUT: true; the input reads as it did. -/
def refineApartSpec : ChangeSpec := { name := "refineApart", fn := fun _ => fun
  | [d1, d2, d3] => { results := [.lit (.bool true)], args := [d1, d2, d3] }
  | _ => none }
def refineApartRow : OpenClaim := { program := "ytbfddopopajgaaagreat", sum := "e201c2f677a8a2ace8ddb5aa0fd52f1732b17d0e1cdab1a9f6ed6df7e43fa150", func := "cylinder/cylinderlaw18.RefineApart", spec := "refineApart", unfollowed := true, recurses := true, named := ["math/bits.overflowError"], apart := false }
def RefineApartSaid : Prop := refineApartRow.holds Tryz.pinned (OpenSpec.ofChange refineApartSpec)

/-- ITS FALSE NEIGHBOUR: 'it returns false'. Refute it at one input. -/
def refineApartWrong : ChangeSpec := { name := "refineApart", fn := fun _ => fun
  | [d1, d2, d3] => { results := [.lit (.bool false)], args := [d1, d2, d3] }
  | _ => none }
def RefineApartWrongFalsely : Prop := refineApartRow.holds Tryz.pinned (OpenSpec.ofChange refineApartWrong)

/-- 'cylinderlaw19.ThomOf': WHATEVER THE INPUT: true; the input reads as it did. -/
def thomOfSpec : ChangeSpec := { name := "thomOf", fn := fun _ => fun
  | [d1, d2] => { results := [.lit (.bool true)], args := [d1, d2] }
  | _ => none }
def thomOfRow : OpenClaim := { program := "ytbfddopopajgaaagreat", sum := "e201c2f677a8a2ace8ddb5aa0fd52f1732b17d0e1cdab1a9f6ed6df7e43fa150", func := "cylinder/cylinderlaw19.ThomOf", spec := "thomOf", unfollowed := true, recurses := true, named := ["math/bits.overflowError"], apart := false }
def ThomOfSaid : Prop := thomOfRow.holds Tryz.pinned (OpenSpec.ofChange thomOfSpec)

/-- ITS FALSE NEIGHBOUR: 'it returns false'. Refute it at one input. -/
def thomOfWrong : ChangeSpec := { name := "thomOf", fn := fun _ => fun
  | [d1, d2] => { results := [.lit (.bool false)], args := [d1, d2] }
  | _ => none }
def ThomOfWrongFalsely : Prop := thomOfRow.holds Tryz.pinned (OpenSpec.ofChange thomOfWrong)

/-- 'cylinderlaw19.ThomLemma': WHATEVER THE INPUT: true; the input reads as it did. -/
def thomLemmaSpec : ChangeSpec := { name := "thomLemma", fn := fun _ => fun
  | [d] => { results := [.lit (.bool true)], args := [d] }
  | _ => none }
def thomLemmaRow : OpenClaim := { program := "ytbfddopopajgaaagreat", sum := "e201c2f677a8a2ace8ddb5aa0fd52f1732b17d0e1cdab1a9f6ed6df7e43fa150", func := "cylinder/cylinderlaw19.ThomLemma", spec := "thomLemma", unfollowed := true, recurses := true, named := ["math/bits.overflowError"], apart := false }
def ThomLemmaSaid : Prop := thomLemmaRow.holds Tryz.pinned (OpenSpec.ofChange thomLemmaSpec)

/-- ITS FALSE NEIGHBOUR: 'it returns false'. Refute it at one input. -/
def thomLemmaWrong : ChangeSpec := { name := "thomLemma", fn := fun _ => fun
  | [d] => { results := [.lit (.bool false)], args := [d] }
  | _ => none }
def ThomLemmaWrongFalsely : Prop := thomLemmaRow.holds Tryz.pinned (OpenSpec.ofChange thomLemmaWrong)

/-- 'cylinderlaw19.ThomCodes': WHATEVER THE INPUT: true; the input reads as it did. -/
def thomCodesSpec : ChangeSpec := { name := "thomCodes", fn := fun _ => fun
  | [d] => { results := [.lit (.bool true)], args := [d] }
  | _ => none }
def thomCodesRow : OpenClaim := { program := "ytbfddopopajgaaagreat", sum := "e201c2f677a8a2ace8ddb5aa0fd52f1732b17d0e1cdab1a9f6ed6df7e43fa150", func := "cylinder/cylinderlaw19.ThomCodes", spec := "thomCodes", unfollowed := true, recurses := true, named := ["math/bits.overflowError"], apart := false }
def ThomCodesSaid : Prop := thomCodesRow.holds Tryz.pinned (OpenSpec.ofChange thomCodesSpec)

/-- ITS FALSE NEIGHBOUR: 'it returns false'. Refute it at one input. -/
def thomCodesWrong : ChangeSpec := { name := "thomCodes", fn := fun _ => fun
  | [d] => { results := [.lit (.bool false)], args := [d] }
  | _ => none }
def ThomCodesWrongFalsely : Prop := thomCodesRow.holds Tryz.pinned (OpenSpec.ofChange thomCodesWrong)

/-- 'cylinderlaw19.ThomSigns': WHATEVER THE INPUT: true; the input reads as it did. -/
def thomSignsSpec : ChangeSpec := { name := "thomSigns", fn := fun _ => fun
  | [d1, d2] => { results := [.lit (.bool true)], args := [d1, d2] }
  | _ => none }
def thomSignsRow : OpenClaim := { program := "ytbfddopopajgaaagreat", sum := "e201c2f677a8a2ace8ddb5aa0fd52f1732b17d0e1cdab1a9f6ed6df7e43fa150", func := "cylinder/cylinderlaw19.ThomSigns", spec := "thomSigns", unfollowed := true, recurses := true, named := ["math/bits.overflowError"], apart := false }
def ThomSignsSaid : Prop := thomSignsRow.holds Tryz.pinned (OpenSpec.ofChange thomSignsSpec)

/-- ITS FALSE NEIGHBOUR: 'it returns false'. Refute it at one input. -/
def thomSignsWrong : ChangeSpec := { name := "thomSigns", fn := fun _ => fun
  | [d1, d2] => { results := [.lit (.bool false)], args := [d1, d2] }
  | _ => none }
def ThomSignsWrongFalsely : Prop := thomSignsRow.holds Tryz.pinned (OpenSpec.ofChange thomSignsWrong)

/- THE SECOND FORM. 'bulk': how many values and letters a reading holds, each counted each time it is reached (what is shared counts as often as it is met; a slice's spare places count too). A statement '..UptoSaid' is the law's where the arguments, and the package variables that the reading takes, are together of bulk at most 1048576: NARROWER than '..Said'. Prove '..Said' where nothing that the law and all that it calls make is longer than what came in: it says more and counts as full. Else prove '..UptoSaid'. A law counts once. -/
mutual
def uptoBulk {H : Type} : DataW H → Nat
  | .lit (.string bytes) => bytes.length + 1
  | .lit _ => 1
  | .nil => 1
  | .ptr d => uptoBulk d + 1
  | .slice elems spare => uptoBulkAll elems + uptoBulkAll spare + 1
  | .agg parts => uptoBulkAll parts + 1
  | .iface _ d => uptoBulk d + 1
  | .map entries => uptoBulkEntries entries + 1
  | .held _ => 1
def uptoBulkAll {H : Type} : List (DataW H) → Nat
  | [] => 0
  | d :: r => uptoBulk d + uptoBulkAll r
def uptoBulkEntries {H : Type} : List (Lit × DataW H) → Nat
  | [] => 0
  | x :: r => uptoBulkEntry x + uptoBulkEntries r
def uptoBulkEntry {H : Type} : Lit × DataW H → Nat
  | (.string bytes, d) => bytes.length + uptoBulk d + 1
  | (_, d) => uptoBulk d + 1
 end
def uptoSmall : (H : Type) → List (DataW H) → Bool := fun _ ds => decide (uptoBulkAll ds ≤ 1048576)
def OpenSpec.upto (s : _root_.Go.ChangeSpec) : _root_.Go.OpenSpec := { _root_.Go.OpenSpec.ofChange s with cond := some uptoSmall }

/-- 'cylinderlaw19.ThomTables', WHERE WHAT IT READS IS OF BULK AT MOST 1048576: true; the input reads as it did. -/
def thomTablesUptoRow : OpenClaim := { program := "ytbfddopopajgaaagreat", sum := "e201c2f677a8a2ace8ddb5aa0fd52f1732b17d0e1cdab1a9f6ed6df7e43fa150", func := "cylinder/cylinderlaw19.ThomTables", spec := "thomTables", unfollowed := true, recurses := true, named := ["math/bits.overflowError"], apart := false, narrowed := true }
def ThomTablesUptoSaid : Prop := thomTablesUptoRow.holds Tryz.pinned (OpenSpec.upto thomTablesSpec)

/-- 'cylinderlaw18.RefineCompares', WHERE WHAT IT READS IS OF BULK AT MOST 1048576: true; the input reads as it did. -/
def refineComparesUptoRow : OpenClaim := { program := "ytbfddopopajgaaagreat", sum := "e201c2f677a8a2ace8ddb5aa0fd52f1732b17d0e1cdab1a9f6ed6df7e43fa150", func := "cylinder/cylinderlaw18.RefineCompares", spec := "refineCompares", unfollowed := true, recurses := true, named := ["math/bits.overflowError"], apart := false, narrowed := true }
def RefineComparesUptoSaid : Prop := refineComparesUptoRow.holds Tryz.pinned (OpenSpec.upto refineComparesSpec)

/-- 'cylinderlaw19.ThomRules', WHERE WHAT IT READS IS OF BULK AT MOST 1048576: true; the input reads as it did. -/
def thomRulesUptoRow : OpenClaim := { program := "ytbfddopopajgaaagreat", sum := "e201c2f677a8a2ace8ddb5aa0fd52f1732b17d0e1cdab1a9f6ed6df7e43fa150", func := "cylinder/cylinderlaw19.ThomRules", spec := "thomRules", unfollowed := true, recurses := true, named := ["math/bits.overflowError"], apart := false, narrowed := true }
def ThomRulesUptoSaid : Prop := thomRulesUptoRow.holds Tryz.pinned (OpenSpec.upto thomRulesSpec)

/-- 'cylinderlaw18.RefineHalves', WHERE WHAT IT READS IS OF BULK AT MOST 1048576: true; the input reads as it did. -/
def refineHalvesUptoRow : OpenClaim := { program := "ytbfddopopajgaaagreat", sum := "e201c2f677a8a2ace8ddb5aa0fd52f1732b17d0e1cdab1a9f6ed6df7e43fa150", func := "cylinder/cylinderlaw18.RefineHalves", spec := "refineHalves", unfollowed := true, recurses := true, named := ["math/bits.overflowError"], apart := false, narrowed := true }
def RefineHalvesUptoSaid : Prop := refineHalvesUptoRow.holds Tryz.pinned (OpenSpec.upto refineHalvesSpec)

/-- 'cylinderlaw18.RefineSteps', WHERE WHAT IT READS IS OF BULK AT MOST 1048576: true; the input reads as it did. -/
def refineStepsUptoRow : OpenClaim := { program := "ytbfddopopajgaaagreat", sum := "e201c2f677a8a2ace8ddb5aa0fd52f1732b17d0e1cdab1a9f6ed6df7e43fa150", func := "cylinder/cylinderlaw18.RefineSteps", spec := "refineSteps", unfollowed := true, recurses := true, named := ["math/bits.overflowError"], apart := false, narrowed := true }
def RefineStepsUptoSaid : Prop := refineStepsUptoRow.holds Tryz.pinned (OpenSpec.upto refineStepsSpec)

/-- 'cylinderlaw19.ThomFinds', WHERE WHAT IT READS IS OF BULK AT MOST 1048576: true; the input reads as it did. -/
def thomFindsUptoRow : OpenClaim := { program := "ytbfddopopajgaaagreat", sum := "e201c2f677a8a2ace8ddb5aa0fd52f1732b17d0e1cdab1a9f6ed6df7e43fa150", func := "cylinder/cylinderlaw19.ThomFinds", spec := "thomFinds", unfollowed := true, recurses := true, named := ["math/bits.overflowError"], apart := false, narrowed := true }
def ThomFindsUptoSaid : Prop := thomFindsUptoRow.holds Tryz.pinned (OpenSpec.upto thomFindsSpec)

/-- 'cylinderlaw19.ThomMisses', WHERE WHAT IT READS IS OF BULK AT MOST 1048576: true; the input reads as it did. -/
def thomMissesUptoRow : OpenClaim := { program := "ytbfddopopajgaaagreat", sum := "e201c2f677a8a2ace8ddb5aa0fd52f1732b17d0e1cdab1a9f6ed6df7e43fa150", func := "cylinder/cylinderlaw19.ThomMisses", spec := "thomMisses", unfollowed := true, recurses := true, named := ["math/bits.overflowError"], apart := false, narrowed := true }
def ThomMissesUptoSaid : Prop := thomMissesUptoRow.holds Tryz.pinned (OpenSpec.upto thomMissesSpec)

/-- 'cylinderlaw18.RefineApart', WHERE WHAT IT READS IS OF BULK AT MOST 1048576: true; the input reads as it did. -/
def refineApartUptoRow : OpenClaim := { program := "ytbfddopopajgaaagreat", sum := "e201c2f677a8a2ace8ddb5aa0fd52f1732b17d0e1cdab1a9f6ed6df7e43fa150", func := "cylinder/cylinderlaw18.RefineApart", spec := "refineApart", unfollowed := true, recurses := true, named := ["math/bits.overflowError"], apart := false, narrowed := true }
def RefineApartUptoSaid : Prop := refineApartUptoRow.holds Tryz.pinned (OpenSpec.upto refineApartSpec)

/-- 'cylinderlaw19.ThomOf', WHERE WHAT IT READS IS OF BULK AT MOST 1048576: true; the input reads as it did. -/
def thomOfUptoRow : OpenClaim := { program := "ytbfddopopajgaaagreat", sum := "e201c2f677a8a2ace8ddb5aa0fd52f1732b17d0e1cdab1a9f6ed6df7e43fa150", func := "cylinder/cylinderlaw19.ThomOf", spec := "thomOf", unfollowed := true, recurses := true, named := ["math/bits.overflowError"], apart := false, narrowed := true }
def ThomOfUptoSaid : Prop := thomOfUptoRow.holds Tryz.pinned (OpenSpec.upto thomOfSpec)

/-- 'cylinderlaw19.ThomLemma', WHERE WHAT IT READS IS OF BULK AT MOST 1048576: true; the input reads as it did. -/
def thomLemmaUptoRow : OpenClaim := { program := "ytbfddopopajgaaagreat", sum := "e201c2f677a8a2ace8ddb5aa0fd52f1732b17d0e1cdab1a9f6ed6df7e43fa150", func := "cylinder/cylinderlaw19.ThomLemma", spec := "thomLemma", unfollowed := true, recurses := true, named := ["math/bits.overflowError"], apart := false, narrowed := true }
def ThomLemmaUptoSaid : Prop := thomLemmaUptoRow.holds Tryz.pinned (OpenSpec.upto thomLemmaSpec)

/-- 'cylinderlaw19.ThomCodes', WHERE WHAT IT READS IS OF BULK AT MOST 1048576: true; the input reads as it did. -/
def thomCodesUptoRow : OpenClaim := { program := "ytbfddopopajgaaagreat", sum := "e201c2f677a8a2ace8ddb5aa0fd52f1732b17d0e1cdab1a9f6ed6df7e43fa150", func := "cylinder/cylinderlaw19.ThomCodes", spec := "thomCodes", unfollowed := true, recurses := true, named := ["math/bits.overflowError"], apart := false, narrowed := true }
def ThomCodesUptoSaid : Prop := thomCodesUptoRow.holds Tryz.pinned (OpenSpec.upto thomCodesSpec)

/-- 'cylinderlaw19.ThomSigns', WHERE WHAT IT READS IS OF BULK AT MOST 1048576: true; the input reads as it did. -/
def thomSignsUptoRow : OpenClaim := { program := "ytbfddopopajgaaagreat", sum := "e201c2f677a8a2ace8ddb5aa0fd52f1732b17d0e1cdab1a9f6ed6df7e43fa150", func := "cylinder/cylinderlaw19.ThomSigns", spec := "thomSigns", unfollowed := true, recurses := true, named := ["math/bits.overflowError"], apart := false, narrowed := true }
def ThomSignsUptoSaid : Prop := thomSignsUptoRow.holds Tryz.pinned (OpenSpec.upto thomSignsSpec)

end Rows
end Go.Proofs.YtbfddopopajgaaaGreat
