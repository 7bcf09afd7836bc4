/- The walks of sturm.negativeRemainder, sturm.Chain and sturm.Of. -/
import Derived.Test.YtdihefmjfnlpcaaGreatSta
import Derived.Test.YtdihefmjfnlpcaaGreatOwp
import Derived.Test.YtdihefmjfnlpcaaGreatDer
namespace Go.Proofs.YtdihefmjfnlpcaaGreat
open Go.RowKit

/-- the negative remainder, primitive with its sign -/
def nrem (a b : List Int) : List Int := if (a.length + 1 - b.length) % 2 = 1 ∧ plead b < 0 then pred (psr a b) else pmn (ptrim (pred (psr a b)))

/-- one step of the chain reckons with numbers that are not too large -/
structure ChFits (a b : List Int) : Prop where
  da : Dl 1000000000 a
  fb : FitP b
  b1 : 1 ≤ plen b
  la : a.length ≤ 1000000
  lb : b.length ≤ 1000000
  r : SmP (psr a b)
  rl : (psr a b).length ≤ 1000000
  rd : Dl 1000000000 (psr a b)

theorem pred_smp {p : List Int} (h : SmP p) : SmP (pred p) := by
  unfold pred
  split
  · intro c hc
    obtain ⟨x, hx, rfl⟩ := List.mem_map.1 hc
    exact Sm.mono ((pprim_smp h).ptrim x hx) (by rw [Int.natAbs_neg]; exact Nat.le_refl _)
  · exact pprim_smp h
theorem pred_le (p : List Int) : (pred p).length ≤ p.length := by
  unfold pred
  split
  · rw [pmn_length, ptrim_length]
    exact Nat.le_trans (plen_le _) (pprim_le' p)
  · exact pprim_le' p

/-- the elements behind the first one -/
def chn : Nat → List Int → List Int → List (List Int)
  | 0, _, _ => []
  | k + 1, a, b => if b = [] then [] else b :: chn k b (nrem a b)
/-- k steps end the chain, and none is too large -/
def chOK : Nat → List Int → List Int → Prop
  | 0, _, _ => False
  | k + 1, a, b => b = [] ∨ (ChFits a b ∧ chOK k b (nrem a b))
/-- the signed remainder sequence -/
def pchain (k : Nat) (f g : List Int) : List (List Int) := if plen f = 0 then [] else pred f :: chn k (pred f) (pred g)

/-- the length of a slice -/
def lenOf : Value → Nat
  | .slice _ l _ => l
  | _ => 0

end Go.Proofs.YtdihefmjfnlpcaaGreat
