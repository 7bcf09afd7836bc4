/- For every slice of triples of int8s the law RootboundDescartes returns true and its argument reads as before: Variations is the number of positive roots or more by an even number. No condition. -/
import Derived.Test.YtipocabbjinbhaaRowL
import Derived.Test.YtipocabbjinbhaaFce
namespace Go.Proofs.Ytipocabbjinbhaa
open Go.ChangeShapes Go.WideShapes Go.ChangeAt Go.RowKit
set_option maxRecDepth 100000 in
theorem descartes_lifted (os:Os) (started:os.Started) (H:Type) (enc:TypeId×Value→H) :
  ReturnsInHanded {} Try.checked os 3 .any (Rows.rootboundDescartesSpec.pre6 enc Try.prog Try.f3 Rows.rootboundDescartesRow.domain false) (Rows.rootboundDescartesSpec.post enc Try.prog Try.f3 false true false false):=by
 refine returnsInHanded_of_change (C:=Try.checked) Try.own started (by kernel_rfl) Try.func3
  (ChangeSpec.witness6 (enc:=enc) (C:=Try.checked) false ⟨#[],#[.slice none 0 0],[]⟩ 8 (by kernel_rfl) (by kernel_rfl) (by kernel_rfl) (by kernel_rfl)) ?_
 intro W base args ds gs before hval0 hW hcnd _
 exact lifted_trs _ Try.f3 Try.params3 rfl enc _ rfl (fun _=>rfl) (fun A len cap qs w h hl=>law_descartes A len cap qs w h hl) W args ds gs before hval0 hW
theorem rootboundDescartes_holds:Rows.RootboundDescartesSaid :=
 OpenClaim.holds_of_wide 3 Try.f3 rfl rfl rfl rfl rfl rfl rfl ⟨rfl,rfl,rfl,rfl,rfl⟩ rfl rfl rfl rfl rfl (by kernel_rfl) Try.func3 (by kernel_rfl)
  (of_decide_eq_true (by kernel_rfl)) (by unfold Func.isWrapper;first | (rw [if_pos (by decide +kernel)];kernel_rfl) | (rw [if_neg (by decide +kernel)];exact ⟨rfl,rfl⟩))
  (fun os started H enc _=>descartes_lifted os started H enc)
#print axioms rootboundDescartes_holds
end Go.Proofs.Ytipocabbjinbhaa
