/- The walks of natural.BitLen, integer.BitLen, rootbound.logarithm, rootbound.Log. (Len32 by the shelf: text Shelf, written by the kit's lay-shelf.mjs and lay-plain.mjs.) -/
import Derived.Test.YtgblfpkfapmlnaaGreatShelf
import Derived.Test.YtgblfpkfapmlnaaGreatIntE
import Derived.Test.YtgblfpkfapmlnaaGreatRefB
namespace Go.Proofs.YtgblfpkfapmlnaaGreat
open Go.RowKit

/-- k is the bit length of n -/
structure BL (n k : Nat) : Prop where
  lt : n < 2 ^ k
  le : 0 < n → 2 ^ k ≤ 2 * n

theorem aux_BL : ∀ f x, x < 2 ^ f → BL x (Lib.bitLenAux f x) := by
  intro f
  induction f with
  | zero =>
    intro x h
    have : x = 0 := by simpa using h
    subst this
    exact ⟨by decide, fun h => by omega⟩
  | succ f ih =>
    intro x h
    rw [Lib.bitLenAux]
    by_cases h0 : x = 0
    · rw [if_pos h0]
      subst h0
      exact ⟨by decide, fun h => by omega⟩
    · rw [if_neg h0]
      rw [Nat.pow_succ] at h
      obtain ⟨h1, h2⟩ := ih (x / 2) (by omega)
      refine ⟨by rw [Nat.add_comm, Nat.pow_succ]; omega, fun _ => ?_⟩
      rw [Nat.add_comm, Nat.pow_succ]
      by_cases h3 : 0 < x / 2
      · have := h2 h3
        omega
      · have h4 : x / 2 = 0 := by omega
        rw [h4]
        have : Lib.bitLenAux f 0 = 0 := by cases f <;> simp [Lib.bitLenAux]
        rw [this]
        omega
theorem len_BL {x : Nat} (h : x < 4294967296) : BL x (Lib.bitLen x) := aux_BL 64 x (Nat.lt_trans h (by decide))
theorem BL_le {n k m : Nat} (h : BL n k) (h0 : 0 < n) (hn : n < 2 ^ m) : k ≤ m := by
  rcases Nat.lt_or_ge m k with h1 | h1
  · have h2 := h.le h0
    have h3 : 2 ^ (m + 1) ≤ 2 ^ k := Nat.pow_le_pow_right (by omega) h1
    rw [Nat.pow_succ] at h3
    omega
  · exact h1

theorem BL_digits {a n x k : Nat} {low : Nat} (ha : a = low + BB ^ n * x) (hlow : low < BB ^ n) (hx : 0 < x) (h : BL x k) : BL a (32 * n + k) := by
  have hB : BB ^ n = 2 ^ (32 * n) := by rw [BB_eq, show (4294967296 : Nat) = 2 ^ 32 by decide, ← Nat.pow_mul]
  rw [hB] at ha hlow
  have h1 := h.lt
  have h2 := h.le hx
  refine ⟨?_, fun _ => ?_⟩ <;> rw [Nat.pow_add]
  · have h3 : 2 ^ (32 * n) * (x + 1) ≤ 2 ^ (32 * n) * 2 ^ k := Nat.mul_le_mul_left _ h1
    rw [Nat.mul_add] at h3
    omega
  · have h3 : 2 ^ (32 * n) * 2 ^ k ≤ 2 ^ (32 * n) * (2 * x) := Nat.mul_le_mul_left _ h2
    have h4 : 2 ^ (32 * n) * (2 * x) = 2 * (2 ^ (32 * n) * x) := by rw [Nat.mul_left_comm]
    omega

theorem digs_top {a : Nat} (h : a ≠ 0) : 0 < (digs a).getD (dlen a - 1) 0 := by
  have h1 : tlen (digs a) = dlen a := tlen_digs a
  have h2 : dlen a ≠ 0 := fun e => h (dlen_eq_zero e)
  rcases Nat.eq_zero_or_pos ((digs a).getD (dlen a - 1) 0) with h0 | h0
  · have := tlen_pred (digs a) (dlen a - 1) (by omega) h0
    omega
  · exact h0

/-- the call has returned the bit length of a -/
def BLE (a : Nat) (e : Ending) : Prop := ∃ k : Nat, e = .returned (.int .i64 (k : Int)) ∧ BL a k ∧ (a = 0 → k = 0)

/-- k is the least exponent whose power of 2 is at least n -/
structure LG (n : Nat) (k : Nat) : Prop where
  le : n ≤ 2 ^ k
  least : ∀ j, j < k → 2 ^ j < n

/-- the call has returned the logarithm of n -/
def LGE (n : Nat) (e : Ending) : Prop := ∃ k : Nat, e = .returned (.int .i64 (k : Int)) ∧ LG n k

theorem LG_of_BL {n k : Nat} (h : BL (n - 1) k) (hn : 2 ≤ n) : LG n k := by
  refine ⟨by have := h.lt; omega, fun j hj => ?_⟩
  have h1 := h.le (by omega)
  have h2 : 2 ^ (j + 1) ≤ 2 ^ k := Nat.pow_le_pow_right (by omega) hj
  rw [Nat.pow_succ] at h2
  omega
theorem LG_one {n : Nat} (hn : n ≤ 1) : LG n 0 := ⟨by simpa using hn, fun j hj => by omega⟩

end Go.Proofs.YtgblfpkfapmlnaaGreat
