/- The walk of unipoly.Reverse. -/
import Derived.Test.YtgblfpkfapmlnaaGreatBits
namespace Go.Proofs.YtgblfpkfapmlnaaGreat
open Go.RowKit

/-- the row when k coefficients have gone over, from the upper end -/
def rvl (q : List Int) (k : Nat) : List Int := (List.range q.length).map fun j => if q.length - k ≤ j then q.getD (q.length - 1 - j) 0 else 0
theorem rvl_length (q : List Int) (k : Nat) : (rvl q k).length = q.length := by simp [rvl]
theorem rvl_getE (q : List Int) (k : Nat) {j : Nat} (h : j < q.length) : (rvl q k)[j]? = some (if q.length - k ≤ j then q.getD (q.length - 1 - j) 0 else 0) := by
  unfold rvl
  rw [List.getElem?_map, List.getElem?_range h]; rfl
theorem rvl_zero (q : List Int) : rvl q 0 = List.replicate q.length 0 := by
  apply List.ext_getElem?
  intro j
  by_cases h : j < q.length
  · rw [rvl_getE q 0 h, if_neg (by omega), List.getElem?_replicate, if_pos h]
  · rw [List.getElem?_eq_none (by rw [rvl_length]; omega), List.getElem?_eq_none (by simp; omega)]
theorem rvl_step (q : List Int) {k : Nat} (hk : k < q.length) : (rvl q k).set (q.length - 1 - k) (q.getD k 0) = rvl q (k + 1) := by
  apply List.ext_getElem?
  intro j
  by_cases h : j < q.length
  · rw [rvl_getE q (k + 1) h]
    by_cases h1 : j = q.length - 1 - k
    · subst h1
      rw [List.getElem?_set_self (by rw [rvl_length]; omega), if_pos (by omega), show q.length - 1 - (q.length - 1 - k) = k by omega]
    · rw [List.getElem?_set_ne (by omega), rvl_getE q k h]
      by_cases h2 : q.length - k ≤ j
      · rw [if_pos h2, if_pos (by omega)]
      · rw [if_neg h2, if_neg (by omega)]
  · rw [List.getElem?_eq_none (by simp [rvl_length]; omega), List.getElem?_eq_none (by rw [rvl_length]; omega)]
theorem rvl_full (q : List Int) : rvl q q.length = q.reverse := by
  apply List.ext_getElem?
  intro j
  by_cases h : j < q.length
  · rw [rvl_getE q _ h, if_pos (by omega), List.getElem?_reverse h, List.getD_eq_getElem?_getD, List.getElem?_eq_getElem (by omega)]; rfl
  · rw [List.getElem?_eq_none (by rw [rvl_length]; omega), List.getElem?_eq_none (by simp; omega)]

end Go.Proofs.YtgblfpkfapmlnaaGreat
