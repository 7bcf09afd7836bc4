/- The exact division of polynomials: the plain steps. No program. -/
import Derived.Test.YtgblfpkfapmlnaaIdP
namespace Go.Proofs.Ytgblfpkfapmlnaa
open Go.RowKit

/-- the row of the rest when j coefficients of one step are done -/
def exRow (fac : Int) (g : List Int) (low : Nat) (z : List Int) (j : Nat) : List Int := (List.range z.length).map fun t => if low ≤ t ∧ t < low + j then z.getD t 0 - fac * g.getD (t - low) 0 else z.getD t 0
theorem exRow_length (fac : Int) (g : List Int) (low : Nat) (z : List Int) (j : Nat) : (exRow fac g low z j).length = z.length := by simp [exRow]
theorem exRow_getE (fac : Int) (g : List Int) (low : Nat) (z : List Int) (j : Nat) {t : Nat} (h : t < z.length) : (exRow fac g low z j)[t]? = some (if low ≤ t ∧ t < low + j then z.getD t 0 - fac * g.getD (t - low) 0 else z.getD t 0) := by
  rw [exRow, List.getElem?_map, List.getElem?_range h]; rfl
theorem exRow_get (fac : Int) (g : List Int) (low : Nat) (z : List Int) (j : Nat) {t : Nat} (h : t < z.length) : (exRow fac g low z j).getD t 0 = if low ≤ t ∧ t < low + j then z.getD t 0 - fac * g.getD (t - low) 0 else z.getD t 0 := by
  rw [List.getD_eq_getElem?_getD, exRow_getE fac g low z j h]; rfl
theorem exRow_zero (fac : Int) (g : List Int) (low : Nat) (z : List Int) : exRow fac g low z 0 = z := by
  refine List.ext_getElem? fun t => ?_
  rcases Nat.lt_or_ge t z.length with h | h
  · rw [exRow_getE fac g low z 0 h, if_neg (by omega), List.getD_eq_getElem?_getD, List.getElem?_eq_getElem h]; rfl
  · rw [List.getElem?_eq_none (by rw [exRow_length]; exact h), List.getElem?_eq_none h]
theorem exRow_set (fac : Int) (g : List Int) (low : Nat) (z : List Int) {j : Nat} (_hj : low + j < z.length) : (exRow fac g low z j).set (low + j) (z.getD (low + j) 0 - fac * g.getD j 0) = exRow fac g low z (j + 1) := by
  refine List.ext_getElem? fun t => ?_
  rcases Nat.lt_or_ge t z.length with h | h
  · rw [exRow_getE fac g low z (j + 1) h]
    rcases Nat.decEq t (low + j) with hne | heq
    · rw [List.getElem?_set_ne (by omega), exRow_getE fac g low z j h]
      congr 1
      by_cases h1 : low ≤ t ∧ t < low + j
      · rw [if_pos h1, if_pos (by omega)]
      · rw [if_neg h1, if_neg (by omega)]
    · subst heq
      rw [List.getElem?_set_self (by rw [exRow_length]; exact h), if_pos (by omega), show low + j - low = j by omega]
  · rw [List.getElem?_eq_none (by rw [List.length_set, exRow_length]; exact h), List.getElem?_eq_none (by rw [exRow_length]; exact h)]

/-- quotient and rest after t steps: the divisor has the degree d, the quotient m coefficients -/
def exn (lead : Int) (g : List Int) (d m : Nat) (z0 : List Int) : Nat → List Int × List Int
  | 0 => (List.replicate m 0, z0)
  | t + 1 =>
    let s := exn lead g d m z0 t
    let low := m - 1 - t
    let fac := (s.2.getD (low + d) 0).tdiv lead
    (s.1.set low fac, exRow fac g low s.2 (d + 1))
theorem exn_length1 (lead : Int) (g : List Int) (d m : Nat) (z0 : List Int) (t : Nat) : (exn lead g d m z0 t).1.length = m := by
  induction t with
  | zero => simp [exn]
  | succ t ih => simp only [exn, List.length_set, ih]
theorem exn_length2 (lead : Int) (g : List Int) (d m : Nat) (z0 : List Int) (t : Nat) : (exn lead g d m z0 t).2.length = z0.length := by
  induction t with
  | zero => simp [exn]
  | succ t ih => simp only [exn, exRow_length, ih]

/-- the division of f by g leaves nothing, and all numbers on the way are small -/
structure ExOK (D : Nat) (f g : List Int) : Prop where
  mok : ∀ t, t < plen f - (plen g - 1) → ∀ j, MulOK (((exn (plead g) g (plen g - 1) (plen f - (plen g - 1)) (ptrim f) t).2.getD (plen f - (plen g - 1) - 1 - t + (plen g - 1)) 0).tdiv (plead g)).natAbs (g.getD j 0).natAbs
  step : ∀ t, t < plen f - (plen g - 1) → ((exn (plead g) g (plen g - 1) (plen f - (plen g - 1)) (ptrim f) t).2.getD (plen f - (plen g - 1) - 1 - t + (plen g - 1)) 0).tmod (plead g) = 0
  dl : ∀ t, t ≤ plen f - (plen g - 1) → Dl D (exn (plead g) g (plen g - 1) (plen f - (plen g - 1)) (ptrim f) t).2
  rest : plen (exn (plead g) g (plen g - 1) (plen f - (plen g - 1)) (ptrim f) (plen f - (plen g - 1))).2 = 0
/-- the quotient -/
def pexq (f g : List Int) : List Int := (exn (plead g) g (plen g - 1) (plen f - (plen g - 1)) (ptrim f) (plen f - (plen g - 1))).1
theorem pexq_length (f g : List Int) : (pexq f g).length = plen f - (plen g - 1) := exn_length1 _ _ _ _ _ _
end Go.Proofs.Ytgblfpkfapmlnaa
