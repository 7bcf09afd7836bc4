/- Long division of the reference, digit by digit. Plain: no program. -/
import Derived.Test.YtgblfpkfapmlnaaBtq
namespace Go.Proofs.Ytgblfpkfapmlnaa

/-- doubling with a carry -/
def dbT (B R c k : Nat) : Nat := 2 * (R % B ^ k) + c
def dbr (B R c k j : Nat) : Nat := if j < k then dgt B (dbT B R c k) j else dgt B R j
theorem dbT_succ (B R c k : Nat) : dbT B R c (k + 1) = dbT B R c k + (2 * dgt B R k) * B ^ k := by
  unfold dbT
  rw [mod_succ]; grind
theorem db_step {B : Nat} (hB : 0 < B) (R c k : Nat) {v : Nat} (hv : v = 2 * dgt B R k + dbT B R c k / B ^ k) : (∀ j, (if j = k then v % B else dbr B R c k j) = dbr B R c (k + 1) j) ∧ v / B = dbT B R c (k + 1) / B ^ (k + 1) := by
  have hp : 0 < B ^ k := Nat.pow_pos hB
  have e : dbT B R c (k + 1) / B ^ k = v := by rw [dbT_succ, Nat.add_mul_div_right _ _ hp, hv]; omega
  refine ⟨fun j => ?_, by rw [Nat.pow_succ, ← Nat.div_div_eq_div_mul, e]⟩
  unfold dbr
  by_cases h : j = k
  · rw [if_pos h, if_pos (by omega), h]; unfold dgt; rw [e]
  · rw [if_neg h]
    by_cases h2 : j < k
    · rw [if_pos h2, if_pos (by omega), dbT_succ, dgt_low hB _ _ h2]
    · rw [if_neg h2, if_neg (by omega)]
theorem dbT_carry {B : Nat} (hB : 1 < B) (R k : Nat) {c : Nat} (hc : c ≤ 1) : dbT B R c k / B ^ k ≤ 1 := by
  have hp : 0 < B ^ k := Nat.pow_pos (by omega)
  have h1 := Nat.mod_lt R hp
  have : dbT B R c k / B ^ k < 2 := (Nat.div_lt_iff_lt_mul hp).2 (by unfold dbT; omega)
  omega
theorem db_full {B R c n : Nat} (h : R < B ^ n) (j : Nat) (hj : j < n) : dbr B R c n j = dgt B (2 * R + c) j := by
  unfold dbr dbT
  rw [if_pos hj, Nat.mod_eq_of_lt h]
theorem db_zero (B R c j : Nat) : dbr B R c 0 j = dgt B R j := by unfold dbr; rw [if_neg (by omega)]

/-- the comparison from the top digit -/
theorem dcmp_top {B a b i : Nat} (h : a / B ^ (i + 1) = b / B ^ (i + 1)) : (dgt B a i = dgt B b i → a / B ^ i = b / B ^ i) ∧ (dgt B a i < dgt B b i → a < b) ∧ (dgt B b i < dgt B a i → b < a) := by
  have e : ∀ n, n / B ^ i = B * (n / B ^ (i + 1)) + dgt B n i := fun n => by
    unfold dgt
    rw [Nat.pow_succ, ← Nat.div_div_eq_div_mul]
    have := Nat.div_add_mod (n / B ^ i) B
    omega
  have ea := e a
  have eb := e b
  rw [← h] at eb
  refine ⟨fun h1 => by omega, fun h1 => ?_, fun h1 => ?_⟩
  · refine Classical.byContradiction fun hn => ?_
    have := Nat.div_le_div_right (c := B ^ i) (show b ≤ a by omega)
    omega
  · refine Classical.byContradiction fun hn => ?_
    have := Nat.div_le_div_right (c := B ^ i) (show a ≤ b by omega)
    omega
theorem dcmp_end {B a b k : Nat} (h : a / B ^ (k + 1) = b / B ^ (k + 1)) (hk : k = 0 ∨ dgt B a k ≠ dgt B b k) : dgt B a k < dgt B b k ↔ a < b := by
  obtain ⟨h1, h2, h3⟩ := dcmp_top h
  refine ⟨h2, fun h4 => ?_⟩
  refine Classical.byContradiction fun hn => ?_
  rcases Nat.lt_or_ge (dgt B b k) (dgt B a k) with h5 | h5
  · have := h3 h5; omega
  · have h6 : dgt B a k = dgt B b k := by omega
    rcases hk with rfl | hk
    · have := h1 h6
      rw [Nat.pow_zero, Nat.div_one, Nat.div_one] at this
      omega
    · exact hk h6

/-- one digit of a difference -/
def sbr (B a b k j : Nat) : Nat := if j < k then dgt B (a - b) j else dgt B a j
def sbw (B a b k : Nat) : Nat := if a % B ^ k < b % B ^ k then 1 else 0
theorem sb_step {B a b : Nat} (hB : 0 < B) (h : b ≤ a) (i : Nat) : ∃ s : Nat, (dgt B a i < dgt B b i + sbw B a b i → s + dgt B b i + sbw B a b i = dgt B a i + B ∧ sbw B a b (i + 1) = 1) ∧ (¬ dgt B a i < dgt B b i + sbw B a b i → s + dgt B b i + sbw B a b i = dgt B a i ∧ sbw B a b (i + 1) = 0) ∧ s = dgt B (a - b) i := by
  obtain ⟨c, hcd⟩ : ∃ c, c = sbw B a b i := ⟨_, rfl⟩
  rw [← hcd]
  unfold sbw at hcd ⊢
  have hp : 0 < B ^ i := Nat.pow_pos hB
  have ha := Nat.mod_lt a hp
  have hb := Nat.mod_lt b hp
  have la := dgt_lt hB a i
  have lb := dgt_lt hB b i
  obtain ⟨P, hP⟩ : ∃ P, P = B ^ i := ⟨_, rfl⟩
  have ea := mod_succ B a i
  have eb := mod_succ B b i
  obtain ⟨x, hx⟩ : ∃ x, x = a / P := ⟨_, rfl⟩
  obtain ⟨y, hy⟩ : ∃ y, y = b / P := ⟨_, rfl⟩
  obtain ⟨r, hr⟩ : ∃ r, r = a % P := ⟨_, rfl⟩
  obtain ⟨t, ht⟩ : ∃ t, t = b % P := ⟨_, rfl⟩
  have da : P * x + r = a := by rw [hx, hr]; exact Nat.div_add_mod a P
  have db : P * y + t = b := by rw [hy, ht]; exact Nat.div_add_mod b P
  obtain ⟨u, hu⟩ : ∃ u, u = dgt B a i := ⟨_, rfl⟩
  obtain ⟨v, hv⟩ : ∃ v, v = dgt B b i := ⟨_, rfl⟩
  have ba : u = x % B := by rw [hu, hx, hP]; rfl
  have bb : v = y % B := by rw [hv, hy, hP]; rfl
  rw [← hP] at ha hb ea eb hcd
  rw [← hr] at ha ea hcd
  rw [← ht] at hb eb hcd
  rw [← hu] at la ea ⊢
  rw [← hv] at lb eb ⊢
  rw [ea, eb]
  have hc1 : c ≤ 1 := by rw [hcd]; split <;> omega
  have hxy : y + c ≤ x := by
    rw [hcd]
    split
    · refine Classical.byContradiction fun hn => ?_
      have : P * x ≤ P * y := Nat.mul_le_mul_left P (by omega)
      omega
    · refine Classical.byContradiction fun hn => ?_
      have : P * (x + 1) ≤ P * y := Nat.mul_le_mul_left P (by omega)
      rw [Nat.mul_add] at this
      omega
  have hd : (a - b) / P = x - y - c := by
    have h1 : a - b = (r + (if r < t then P else 0) - t) + (x - y - c) * P := by
      rw [hcd] at hxy ⊢
      have h2 : (x - y - (if r < t then 1 else 0)) * P = P * x - P * y - (if r < t then P else 0) := by
        split <;> rw [Nat.sub_mul, Nat.sub_mul, Nat.mul_comm x, Nat.mul_comm y] <;> simp
      rw [h2]
      have h3 : P * y ≤ P * x := Nat.mul_le_mul_left P (by omega)
      split
      · rename_i hlt
        rw [if_pos hlt] at hxy
        have h4 : P * (y + 1) ≤ P * x := Nat.mul_le_mul_left P (by omega)
        rw [Nat.mul_add] at h4
        omega
      · omega
    rw [h1, Nat.add_mul_div_right _ _ (by omega)]
    have h5 : (r + (if r < t then P else 0) - t) / P = 0 := Nat.div_eq_of_lt (by split <;> omega)
    omega
  have bd : dgt B (a - b) i = (x - y - c) % B := by unfold dgt; rw [← hP, hd]
  have hX := Nat.div_add_mod x B
  have hY := Nat.div_add_mod y B
  rw [← ba] at hX
  rw [← bb] at hY
  have hmul : ∀ {p q : Nat}, p < q → p * P + P ≤ q * P := fun {p q} h => by
    have := Nat.mul_le_mul_right P (show p + 1 ≤ q from h)
    rw [Nat.add_mul, Nat.one_mul] at this
    exact this
  refine ⟨dgt B (a - b) i, fun hlt => ?_, fun hlt => ?_, rfl⟩
  · have hq : y / B + 1 ≤ x / B := by
      refine Classical.byContradiction fun hn => ?_
      have : B * (x / B) ≤ B * (y / B) := Nat.mul_le_mul_left B (by omega)
      omega
    have e1 : x - y - c = (u + B - v - c) + (x / B - (y / B + 1)) * B := by
      have h2 : (x / B - (y / B + 1)) * B = B * (x / B) - (B * (y / B) + B) := by rw [Nat.sub_mul, Nat.add_mul, Nat.one_mul, Nat.mul_comm (x / B), Nat.mul_comm (y / B)]
      have h3 : B * (y / B) + B ≤ B * (x / B) := by
        have := Nat.mul_le_mul_left B hq
        rw [Nat.mul_add, Nat.mul_one] at this
        exact this
      omega
    refine ⟨?_, ?_⟩
    · rw [bd, e1, Nat.add_mul_mod_self_right, Nat.mod_eq_of_lt (by omega)]; omega
    · rw [if_pos]
      rcases Nat.lt_or_ge u v with h1 | h1
      · have := hmul h1; omega
      · have h2 : u = v := by omega
        have h3 : c = 1 := by omega
        rw [h2]
        rw [hcd] at h3
        split at h3 <;> omega
  · have hq : y / B ≤ x / B := Nat.div_le_div_right (by omega)
    have e1 : x - y - c = (u - v - c) + (x / B - y / B) * B := by
      have h2 : (x / B - y / B) * B = B * (x / B) - B * (y / B) := by rw [Nat.sub_mul, Nat.mul_comm (x / B), Nat.mul_comm (y / B)]
      have h3 : B * (y / B) ≤ B * (x / B) := Nat.mul_le_mul_left B hq
      omega
    refine ⟨?_, ?_⟩
    · rw [bd, e1, Nat.add_mul_mod_self_right, Nat.mod_eq_of_lt (by omega)]; omega
    · rw [if_neg]
      rcases Nat.lt_or_ge v u with h1 | h1
      · have := hmul h1; omega
      · have h2 : u = v := by omega
        have h3 : c = 0 := by omega
        rw [h2]
        rw [hcd] at h3
        split at h3 <;> omega
theorem sbr_set (B a b k : Nat) {s : Nat} (hs : s = dgt B (a - b) k) (j : Nat) : (if j = k then s else sbr B a b k j) = sbr B a b (k + 1) j := by
  unfold sbr
  by_cases h : j = k
  · rw [if_pos h, if_pos (by omega), h, hs]
  · rw [if_neg h]
    by_cases h2 : j < k
    · rw [if_pos h2, if_pos (by omega)]
    · rw [if_neg h2, if_neg (by omega)]

/-- the bits of the quotient -/
theorem quo_step {a b : Nat} (hb : 0 < b) (i : Nat) : let R := a / 2 ^ (i + 1) % b; (2 * R + btn a i < b → btn (a / b) i = 0 ∧ a / 2 ^ i % b = 2 * R + btn a i) ∧ (b ≤ 2 * R + btn a i → btn (a / b) i = 1 ∧ a / 2 ^ i % b = 2 * R + btn a i - b) := by
  intro R
  have h1 : a / 2 ^ i = 2 * (a / 2 ^ (i + 1)) + btn a i := by
    unfold btn
    rw [Nat.pow_succ, ← Nat.div_div_eq_div_mul]
    have := Nat.div_add_mod (a / 2 ^ i) 2
    omega
  have hR : R < b := Nat.mod_lt _ hb
  have h2 := Nat.div_add_mod (a / 2 ^ (i + 1)) b
  obtain ⟨q, hq⟩ : ∃ q, q = a / 2 ^ (i + 1) / b := ⟨_, rfl⟩
  rw [← hq] at h2
  have h3 : a / 2 ^ i = (2 * R + btn a i) + b * (2 * q) := by
    rw [h1]
    have : R = a / 2 ^ (i + 1) % b := rfl
    rw [← this] at h2
    have : b * (2 * q) = 2 * (b * q) := by grind
    omega
  have hx := btn_lt a i
  have h4 : btn (a / b) i = a / 2 ^ i / b % 2 := by
    unfold btn
    rw [Nat.div_div_eq_div_mul, Nat.mul_comm, ← Nat.div_div_eq_div_mul]
  refine ⟨fun hlt => ?_, fun hge => ?_⟩
  · exact ⟨by rw [h4, h3, Nat.add_mul_div_left _ _ hb, Nat.div_eq_of_lt hlt]; omega, by rw [h3, Nat.add_mul_mod_self_left, Nat.mod_eq_of_lt hlt]⟩
  · have e : (2 * R + btn a i) + b * (2 * q) = (2 * R + btn a i - b) + b * (2 * q + 1) := by rw [Nat.mul_add, Nat.mul_one]; omega
    have hlt : 2 * R + btn a i - b < b := by omega
    exact ⟨by rw [h4, h3, e, Nat.add_mul_div_left _ _ hb, Nat.div_eq_of_lt hlt]; omega, by rw [h3, e, Nat.add_mul_mod_self_left, Nat.mod_eq_of_lt hlt]⟩
end Go.Proofs.Ytgblfpkfapmlnaa
