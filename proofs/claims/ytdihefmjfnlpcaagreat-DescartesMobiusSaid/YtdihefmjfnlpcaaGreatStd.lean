/- The walks of sturm.VariationsEnd, lostOnLine and, at x^2 - 2, of All and of awake of chapter 15. -/
import Derived.Test.YtdihefmjfnlpcaaGreatSta
import Derived.Test.YtdihefmjfnlpcaaGreatOwp
import Derived.Test.YtdihefmjfnlpcaaGreatDer
import Derived.Test.YtdihefmjfnlpcaaGreatPart
/- The walks of sturm.negativeRemainder, sturm.Chain and sturm.Of. -/
namespace Go.Proofs.YtdihefmjfnlpcaaGreat
open Go.RowKit

/-- the negative remainder, primitive with its sign -/
def nrem (a b : List Int) : List Int := if (a.length + 1 - b.length) % 2 = 1 ∧ plead b < 0 then pred (psr a b) else pmn (ptrim (pred (psr a b)))

/-- one step of the chain reckons with numbers that are not too large -/
structure ChFits (a b : List Int) : Prop where
  da : Dl 1000000000 a
  fb : FitP b
  b1 : 1 ≤ plen b
  la : a.length ≤ 1000000
  lb : b.length ≤ 1000000
  r : SmP (psr a b)
  rl : (psr a b).length ≤ 1000000
  rd : Dl 1000000000 (psr a b)

theorem pred_smp {p : List Int} (h : SmP p) : SmP (pred p) := by
  unfold pred
  split
  · intro c hc
    obtain ⟨x, hx, rfl⟩ := List.mem_map.1 hc
    exact Sm.mono ((pprim_smp h).ptrim x hx) (by rw [Int.natAbs_neg]; exact Nat.le_refl _)
  · exact pprim_smp h
theorem pred_le (p : List Int) : (pred p).length ≤ p.length := by
  unfold pred
  split
  · rw [pmn_length, ptrim_length]
    exact Nat.le_trans (plen_le _) (pprim_le' p)
  · exact pprim_le' p

/-- the elements behind the first one -/
def chn : Nat → List Int → List Int → List (List Int)
  | 0, _, _ => []
  | k + 1, a, b => if b = [] then [] else b :: chn k b (nrem a b)
/-- k steps end the chain, and none is too large -/
def chOK : Nat → List Int → List Int → Prop
  | 0, _, _ => False
  | k + 1, a, b => b = [] ∨ (ChFits a b ∧ chOK k b (nrem a b))
/-- the signed remainder sequence -/
def pchain (k : Nat) (f g : List Int) : List (List Int) := if plen f = 0 then [] else pred f :: chn k (pred f) (pred g)

/-- the length of a slice -/
def lenOf : Value → Nat
  | .slice _ l _ => l
  | _ => 0

end Go.Proofs.YtdihefmjfnlpcaaGreat

/- The walks of unipoly.SignEnd and, of package sturm, changes, VariationsEnd, lostOnLine. -/
namespace Go.Proofs.YtdihefmjfnlpcaaGreat
open Go.RowKit

/-- the sign near an end of the line -/
def sge (m : Bool) (f : List Int) : Int := if m = true ∧ ¬ ((plen f : Nat) : Int).tmod 2 = 1 then -(sg (plead f)) else sg (plead f)
theorem sge_unit (m : Bool) (f : List Int) : sge m f = -1 ∨ sge m f = 0 ∨ sge m f = 1 := by
  unfold sge
  split <;> rcases sg_cases (plead f) with ⟨_, e⟩ | ⟨_, e⟩ | ⟨_, e⟩ <;> omega

/-- A list of signs. -/
def Sgn1 (S : List Int) : Prop := ∀ k, S.getD k 0 = -1 ∨ S.getD k 0 = 0 ∨ S.getD k 0 = 1

end Go.Proofs.YtdihefmjfnlpcaaGreat

/- The walks of sturm.VariationsEnd, lostOnLine and, at x^2 - 2, of All and of awake of chapter 15. -/
namespace Go.Proofs.YtdihefmjfnlpcaaGreat
open Go.RowKit
theorem sgnMap (F : List Int → Int) (hF : ∀ f, F f = -1 ∨ F f = 0 ∨ F f = 1) (ps : List (List Int)) : Sgn1 (ps.map F) := fun k => by
  rw [List.getD_eq_getElem?_getD, List.getElem?_map]
  cases ps[k]? with
  | none => exact .inr (.inl rfl)
  | some p => exact hF p
theorem mapF_get (F : List Int → Int) (ps : List (List Int)) {k : Nat} (hk : k < ps.length) : (ps.map F).getD k 0 = F (ps.getD k []) := by
  simp [List.getD_eq_getElem?_getD, List.getElem?_eq_getElem hk]

theorem w2_pred : pred w2 = w2 := by decide
theorem w2_pred' : pred [0, 2] = [0, 1] := by decide
theorem w2_nrem : nrem w2 [0, 1] = [1] := by decide
theorem w2_nrem' : nrem [0, 1] [1] = [] := by decide
theorem w2_chok : chOK 3 (pred w2) (pred (pder w2)) := by
  rw [w2_der, w2_pred, w2_pred']
  refine .inr ⟨⟨(fitp_100 (by decide)).dl, fitp_100 (by decide), by decide, by decide, by decide, (fitp_100 (by decide)).smp, by decide, (fitp_100 (by decide)).dl⟩, ?_⟩
  rw [w2_nrem]
  refine .inr ⟨⟨(fitp_100 (by decide)).dl, fitp_100 (by decide), by decide, by decide, by decide, (fitp_100 (by decide)).smp, by decide, (fitp_100 (by decide)).dl⟩, ?_⟩
  rw [w2_nrem']
  exact .inl rfl
theorem w2_chn : chn 3 (pred w2) (pred (pder w2)) = [[0, 1], [1]] := by
  rw [w2_der, w2_pred, w2_pred']
  show [0, 1] :: (if nrem w2 [0, 1] = [] then [] else nrem w2 [0, 1] :: (if nrem [0, 1] (nrem w2 [0, 1]) = [] then [] else _)) = _
  rw [w2_nrem, w2_nrem']
  rfl
theorem w2_chain : pchain 3 w2 (pder w2) = [w2, [0, 1], [1]] := by
  unfold pchain
  rw [w2_chn, w2_pred, if_neg (by decide)]

theorem w2_at (w : World) : I64At (w.alloc (.cells #[.int .i64 (-2), .int .i64 0, .int .i64 1] 2)) (some ⟨w.heap.size, 0, none⟩) 3 3 w2 := by
  refine ⟨rfl, by omega, .inr ⟨w.heap.size, 0, rfl, by simp, fun j hj => ?_⟩⟩
  match j, hj with
  | 0, _ => simp [w2]
  | 1, _ => simp [w2]
  | 2, _ => simp [w2]

end Go.Proofs.YtdihefmjfnlpcaaGreat
