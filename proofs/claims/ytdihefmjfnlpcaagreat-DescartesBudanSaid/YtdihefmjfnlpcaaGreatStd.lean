/- The walks of sturm.VariationsEnd, lostOnLine and, at x^2 - 2, of All and of awake of chapter 15. -/
import Derived.Test.YtdihefmjfnlpcaaGreatStc
import Derived.Test.YtdihefmjfnlpcaaGreatPart
namespace Go.Proofs.YtdihefmjfnlpcaaGreat
open Go.RowKit
theorem sgnMap (F : List Int → Int) (hF : ∀ f, F f = -1 ∨ F f = 0 ∨ F f = 1) (ps : List (List Int)) : Sgn1 (ps.map F) := fun k => by
  rw [List.getD_eq_getElem?_getD, List.getElem?_map]
  cases ps[k]? with
  | none => exact .inr (.inl rfl)
  | some p => exact hF p
theorem mapF_get (F : List Int → Int) (ps : List (List Int)) {k : Nat} (hk : k < ps.length) : (ps.map F).getD k 0 = F (ps.getD k []) := by
  simp [List.getD_eq_getElem?_getD, List.getElem?_eq_getElem hk]

theorem w2_pred : pred w2 = w2 := by decide
theorem w2_pred' : pred [0, 2] = [0, 1] := by decide
theorem w2_nrem : nrem w2 [0, 1] = [1] := by decide
theorem w2_nrem' : nrem [0, 1] [1] = [] := by decide
theorem w2_chok : chOK 3 (pred w2) (pred (pder w2)) := by
  rw [w2_der, w2_pred, w2_pred']
  refine .inr ⟨⟨(fitp_100 (by decide)).dl, fitp_100 (by decide), by decide, by decide, by decide, (fitp_100 (by decide)).smp, by decide, (fitp_100 (by decide)).dl⟩, ?_⟩
  rw [w2_nrem]
  refine .inr ⟨⟨(fitp_100 (by decide)).dl, fitp_100 (by decide), by decide, by decide, by decide, (fitp_100 (by decide)).smp, by decide, (fitp_100 (by decide)).dl⟩, ?_⟩
  rw [w2_nrem']
  exact .inl rfl
theorem w2_chn : chn 3 (pred w2) (pred (pder w2)) = [[0, 1], [1]] := by
  rw [w2_der, w2_pred, w2_pred']
  show [0, 1] :: (if nrem w2 [0, 1] = [] then [] else nrem w2 [0, 1] :: (if nrem [0, 1] (nrem w2 [0, 1]) = [] then [] else _)) = _
  rw [w2_nrem, w2_nrem']
  rfl
theorem w2_chain : pchain 3 w2 (pder w2) = [w2, [0, 1], [1]] := by
  unfold pchain
  rw [w2_chn, w2_pred, if_neg (by decide)]

theorem w2_at (w : World) : I64At (w.alloc (.cells #[.int .i64 (-2), .int .i64 0, .int .i64 1] 2)) (some ⟨w.heap.size, 0, none⟩) 3 3 w2 := by
  refine ⟨rfl, by omega, .inr ⟨w.heap.size, 0, rfl, by simp, fun j hj => ?_⟩⟩
  match j, hj with
  | 0, _ => simp [w2]
  | 1, _ => simp [w2]
  | 2, _ => simp [w2]

end Go.Proofs.YtdihefmjfnlpcaaGreat
