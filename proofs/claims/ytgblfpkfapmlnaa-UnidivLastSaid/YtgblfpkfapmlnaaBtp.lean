/- The numbers of the reference: lists of bits, and of words of 15 bits. Plain: no program. -/
import Derived.Test.YtgblfpkfapmlnaaRbH
import Derived.Test.YtgblfpkfapmlnaaIdP
namespace Go.Proofs.Ytgblfpkfapmlnaa

/-- the bit i -/
def btn (n i : Nat) : Nat := n / 2 ^ i % 2
theorem btn_lt (n i : Nat) : btn n i < 2 := Nat.mod_lt _ (by decide)
/-- how many bits -/
def bln (n : Nat) : Nat := if n = 0 then 0 else Nat.log2 n + 1
theorem bln_lt (n : Nat) : n < 2 ^ bln n := by
  unfold bln
  split
  · omega
  · exact Nat.lt_log2_self
theorem bln_le {n k : Nat} (h : n < 2 ^ k) : bln n ≤ k := by
  unfold bln
  split
  · omega
  · rename_i h0
    exact (Nat.log2_lt h0).2 h
theorem btn_zero {n i : Nat} (h : n < 2 ^ i) : btn n i = 0 := by unfold btn; rw [Nat.div_eq_of_lt h]
theorem btn_top {n : Nat} (h : n ≠ 0) : btn n (bln n - 1) = 1 := by
  have h1 : bln n - 1 = Nat.log2 n := by unfold bln; rw [if_neg h, Nat.add_sub_cancel]
  have h2 := Nat.log2_self_le h
  have h3 : n < 2 ^ (Nat.log2 n + 1) := Nat.lt_log2_self
  rw [h1]
  unfold btn
  rw [Nat.pow_succ] at h3
  have h4 : n / 2 ^ Nat.log2 n = 1 := by
    have hp : 0 < 2 ^ Nat.log2 n := Nat.pow_pos (by decide)
    refine Nat.le_antisymm ?_ ?_
    · have : n / 2 ^ Nat.log2 n < 2 := (Nat.div_lt_iff_lt_mul hp).2 (by omega)
      omega
    · exact (Nat.le_div_iff_mul_le hp).2 (by omega)
  rw [h4]
/-- the bits of a number, least first -/
def bts (n : Nat) : List Int := (List.range (bln n)).map fun i => ((btn n i : Nat) : Int)
theorem bts_length (n : Nat) : (bts n).length = bln n := by simp [bts]
theorem bts_get (n i : Nat) : (bts n).getD i 0 = ((btn n i : Nat) : Int) := by
  by_cases h : i < bln n
  · simp [bts, List.getD_eq_getElem?_getD, h]
  · have h1 : n < 2 ^ i := Nat.lt_of_lt_of_le (bln_lt n) (Nat.pow_le_pow_right (by decide) (by omega))
    rw [btn_zero h1, List.getD_eq_getElem?_getD, List.getElem?_eq_none (by rw [bts_length]; omega)]; rfl
theorem bts_plen (n : Nat) : plen (bts n) = bln n := by
  by_cases h : n = 0
  · subst h; rfl
  · have hb : 0 < bln n := by unfold bln; rw [if_neg h]; omega
    have := plen_eq (bts n) (bln n - 1) (by have := plen_le (bts n); rw [bts_length] at this; omega) (by rw [bts_get, btn_top h]; decide)
    omega
theorem bts_trim (n : Nat) : ptrim (bts n) = bts n := by unfold ptrim; rw [bts_plen, ← bts_length, List.take_length]
/-- a list of bits, trimmed -/
theorem trim_bts {p : List Int} {n : Nat} (h : ∀ j, j < p.length → p.getD j 0 = ((btn n j : Nat) : Int)) (hn : n < 2 ^ p.length) : ptrim p = bts n := by
  rw [← bts_trim]
  refine ptrim_ext fun k => ?_
  rw [bts_get]
  by_cases hk : k < p.length
  · exact h k hk
  · have h1 : n < 2 ^ k := Nat.lt_of_lt_of_le hn (Nat.pow_le_pow_right (by decide) (by omega))
    rw [btn_zero h1, List.getD_eq_getElem?_getD, List.getElem?_eq_none (by omega)]; rfl

theorem btn_mod (n i : Nat) : n % 2 ^ (i + 1) = n % 2 ^ i + btn n i * 2 ^ i := by
  unfold btn
  rw [Nat.pow_succ, Nat.mod_mul]
  rw [Nat.mul_comm]
/-- one step of an addition -/
theorem add_step (a b i : Nat) : let c := (a % 2 ^ i + b % 2 ^ i) / 2 ^ i; (btn a i + btn b i + c) % 2 = btn (a + b) i ∧ (btn a i + btn b i + c) / 2 = (a % 2 ^ (i + 1) + b % 2 ^ (i + 1)) / 2 ^ (i + 1) ∧ c ≤ 1 := by
  intro c
  have hp : 0 < 2 ^ i := Nat.pow_pos (by decide)
  have ha := Nat.mod_lt a hp
  have hb := Nat.mod_lt b hp
  obtain ⟨P, hP⟩ : ∃ P, P = 2 ^ i := ⟨_, rfl⟩
  have e1 : a % 2 ^ (i + 1) + b % 2 ^ (i + 1) = (a % 2 ^ i + b % 2 ^ i) + (btn a i + btn b i) * 2 ^ i := by rw [btn_mod, btn_mod, Nat.add_mul]; omega
  have e2 : (a % 2 ^ (i + 1) + b % 2 ^ (i + 1)) / 2 ^ i = c + (btn a i + btn b i) := by rw [e1, Nat.add_mul_div_right _ _ hp]
  have hc : c ≤ 1 := by
    have : c < 2 := (Nat.div_lt_iff_lt_mul hp).2 (by omega)
    omega
  refine ⟨?_, ?_, hc⟩
  · have h2 : (a + b) / 2 ^ i = (a / 2 ^ i + b / 2 ^ i) + c := by
      have h3 : a + b = (a % 2 ^ i + b % 2 ^ i) + (a / 2 ^ i + b / 2 ^ i) * 2 ^ i := by
        have h4 := Nat.div_add_mod a (2 ^ i)
        have h5 := Nat.div_add_mod b (2 ^ i)
        rw [Nat.add_mul, Nat.mul_comm (a / 2 ^ i), Nat.mul_comm (b / 2 ^ i)]
        omega
      have h6 : (a + b) / 2 ^ i = ((a % 2 ^ i + b % 2 ^ i) + (a / 2 ^ i + b / 2 ^ i) * 2 ^ i) / 2 ^ i := by rw [← h3]
      rw [h6, Nat.add_mul_div_right _ _ hp]
      omega
    show (btn a i + btn b i + c) % 2 = btn (a + b) i
    have h7 : btn (a + b) i = (a / 2 ^ i + b / 2 ^ i + c) % 2 := by unfold btn; rw [h2]
    have h8 : btn a i = a / 2 ^ i % 2 := rfl
    have h9 : btn b i = b / 2 ^ i % 2 := rfl
    rw [h7, h8, h9]
    omega
  · have h2 : (a % 2 ^ (i + 1) + b % 2 ^ (i + 1)) / 2 ^ (i + 1) = (a % 2 ^ (i + 1) + b % 2 ^ (i + 1)) / 2 ^ i / 2 := by rw [Nat.div_div_eq_div_mul, ← Nat.pow_succ]
    rw [h2, e2]
    congr 1; omega
/-- one step of a subtraction -/
theorem sub_step {a b : Nat} (h : b ≤ a) (i : Nat) : let c := if a % 2 ^ i < b % 2 ^ i then 1 else 0; ∃ s : Nat, (btn a i < btn b i + c → s + btn b i + c = btn a i + 2 ∧ a % 2 ^ (i + 1) < b % 2 ^ (i + 1)) ∧ (¬ btn a i < btn b i + c → s + btn b i + c = btn a i ∧ ¬ a % 2 ^ (i + 1) < b % 2 ^ (i + 1)) ∧ s = btn (a - b) i := by
  intro c
  have hp : 0 < 2 ^ i := Nat.pow_pos (by decide)
  have ha := Nat.mod_lt a hp
  have hb := Nat.mod_lt b hp
  have la := btn_lt a i
  have lb := btn_lt b i
  obtain ⟨P, hP⟩ : ∃ P, P = 2 ^ i := ⟨_, rfl⟩
  have ea := btn_mod a i
  have eb := btn_mod b i
  obtain ⟨x, hx⟩ : ∃ x, x = a / P := ⟨_, rfl⟩
  obtain ⟨y, hy⟩ : ∃ y, y = b / P := ⟨_, rfl⟩
  obtain ⟨r, hr⟩ : ∃ r, r = a % P := ⟨_, rfl⟩
  obtain ⟨t, ht⟩ : ∃ t, t = b % P := ⟨_, rfl⟩
  have da : P * x + r = a := by rw [hx, hr]; exact Nat.div_add_mod a P
  have db : P * y + t = b := by rw [hy, ht]; exact Nat.div_add_mod b P
  have ba : btn a i = x % 2 := by unfold btn; rw [hx, hP]
  have bb : btn b i = y % 2 := by unfold btn; rw [hy, hP]
  rw [← hP] at ha hb ea eb
  rw [← hr] at ha ea
  rw [← ht] at hb eb
  have hc : c = if r < t then 1 else 0 := by show (if a % 2 ^ i < b % 2 ^ i then 1 else 0) = _; rw [← hP, ← hr, ← ht]
  have hxy : y + c ≤ x := by
    rw [hc]
    split
    · refine Classical.byContradiction fun hn => ?_
      have : P * x ≤ P * y := Nat.mul_le_mul_left P (by omega)
      omega
    · refine Classical.byContradiction fun hn => ?_
      have : P * (x + 1) ≤ P * y := Nat.mul_le_mul_left P (by omega)
      rw [Nat.mul_add] at this
      omega
  have hd : (a - b) / P = x - y - c := by
    have h1 : a - b = (r + (if r < t then P else 0) - t) + (x - y - c) * P := by
      rw [hc] at hxy ⊢
      have h2 : (x - y - (if r < t then 1 else 0)) * P = P * x - P * y - (if r < t then P else 0) := by
        split <;> rw [Nat.sub_mul, Nat.sub_mul, Nat.mul_comm x, Nat.mul_comm y] <;> simp
      rw [h2]
      have h3 : P * y ≤ P * x := Nat.mul_le_mul_left P (by omega)
      split
      · rename_i hlt
        rw [if_pos hlt] at hxy
        have h4 : P * (y + 1) ≤ P * x := Nat.mul_le_mul_left P (by omega)
        rw [Nat.mul_add] at h4
        omega
      · omega
    rw [h1, Nat.add_mul_div_right _ _ (by omega)]
    have h5 : (r + (if r < t then P else 0) - t) / P = 0 := Nat.div_eq_of_lt (by split <;> omega)
    omega
  have bd : btn (a - b) i = (x - y - c) % 2 := by unfold btn; rw [← hP, hd]
  have hc1 : c ≤ 1 := by rw [hc]; split <;> omega
  have hsucc : 2 ^ (i + 1) = P * 2 := by rw [hP, Nat.pow_succ]
  refine ⟨btn (a - b) i, fun hlt => ?_, fun hlt => ?_, rfl⟩
  · refine ⟨by rw [bd, ba, bb] at *; omega, ?_⟩
    rw [ea, eb]
    have : btn a i * P ≤ btn a i * P := Nat.le_refl _
    rcases Nat.lt_or_ge (btn a i) (btn b i) with h1 | h1
    · have h2 : btn a i = 0 := by omega
      have h3 : btn b i = 1 := by omega
      rw [h2, h3]; omega
    · have h2 : btn a i = btn b i := by omega
      have h3 : c = 1 := by omega
      rw [h2]
      rw [hc] at h3
      split at h3
      · omega
      · omega
  · refine ⟨by rw [bd, ba, bb] at *; omega, ?_⟩
    rw [ea, eb]
    rcases Nat.lt_or_ge (btn b i) (btn a i) with h1 | h1
    · have h2 : btn b i = 0 := by omega
      have h3 : btn a i = 1 := by omega
      rw [h2, h3]; omega
    · have h2 : btn a i = btn b i := by omega
      have h3 : c = 0 := by omega
      rw [h2]
      rw [hc] at h3
      split at h3
      · omega
      · omega
end Go.Proofs.Ytgblfpkfapmlnaa
