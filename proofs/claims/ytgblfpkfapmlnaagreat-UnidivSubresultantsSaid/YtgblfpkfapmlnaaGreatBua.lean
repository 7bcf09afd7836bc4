/- Long division of the reference, digit by digit. Plain: no program. -/
import Derived.Test.YtgblfpkfapmlnaaGreatRbH
import Derived.Test.YtgblfpkfapmlnaaGreatIdP
/- The numbers of the reference: lists of bits, and of words of 15 bits. Plain: no program. -/
namespace Go.Proofs.YtgblfpkfapmlnaaGreat

/-- the bit i -/
def btn (n i : Nat) : Nat := n / 2 ^ i % 2
theorem btn_lt (n i : Nat) : btn n i < 2 := Nat.mod_lt _ (by decide)
/-- how many bits -/
def bln (n : Nat) : Nat := if n = 0 then 0 else Nat.log2 n + 1
theorem bln_lt (n : Nat) : n < 2 ^ bln n := by
  unfold bln
  split
  · omega
  · exact Nat.lt_log2_self
theorem bln_le {n k : Nat} (h : n < 2 ^ k) : bln n ≤ k := by
  unfold bln
  split
  · omega
  · rename_i h0
    exact (Nat.log2_lt h0).2 h
theorem btn_zero {n i : Nat} (h : n < 2 ^ i) : btn n i = 0 := by unfold btn; rw [Nat.div_eq_of_lt h]
theorem btn_top {n : Nat} (h : n ≠ 0) : btn n (bln n - 1) = 1 := by
  have h1 : bln n - 1 = Nat.log2 n := by unfold bln; rw [if_neg h, Nat.add_sub_cancel]
  have h2 := Nat.log2_self_le h
  have h3 : n < 2 ^ (Nat.log2 n + 1) := Nat.lt_log2_self
  rw [h1]
  unfold btn
  rw [Nat.pow_succ] at h3
  have h4 : n / 2 ^ Nat.log2 n = 1 := by
    have hp : 0 < 2 ^ Nat.log2 n := Nat.pow_pos (by decide)
    refine Nat.le_antisymm ?_ ?_
    · have : n / 2 ^ Nat.log2 n < 2 := (Nat.div_lt_iff_lt_mul hp).2 (by omega)
      omega
    · exact (Nat.le_div_iff_mul_le hp).2 (by omega)
  rw [h4]
/-- the bits of a number, least first -/
def bts (n : Nat) : List Int := (List.range (bln n)).map fun i => ((btn n i : Nat) : Int)
theorem bts_length (n : Nat) : (bts n).length = bln n := by simp [bts]
theorem bts_get (n i : Nat) : (bts n).getD i 0 = ((btn n i : Nat) : Int) := by
  by_cases h : i < bln n
  · simp [bts, List.getD_eq_getElem?_getD, h]
  · have h1 : n < 2 ^ i := Nat.lt_of_lt_of_le (bln_lt n) (Nat.pow_le_pow_right (by decide) (by omega))
    rw [btn_zero h1, List.getD_eq_getElem?_getD, List.getElem?_eq_none (by rw [bts_length]; omega)]; rfl
theorem bts_plen (n : Nat) : plen (bts n) = bln n := by
  by_cases h : n = 0
  · subst h; rfl
  · have hb : 0 < bln n := by unfold bln; rw [if_neg h]; omega
    have := plen_eq (bts n) (bln n - 1) (by have := plen_le (bts n); rw [bts_length] at this; omega) (by rw [bts_get, btn_top h]; decide)
    omega
theorem bts_trim (n : Nat) : ptrim (bts n) = bts n := by unfold ptrim; rw [bts_plen, ← bts_length, List.take_length]
/-- a list of bits, trimmed -/
theorem trim_bts {p : List Int} {n : Nat} (h : ∀ j, j < p.length → p.getD j 0 = ((btn n j : Nat) : Int)) (hn : n < 2 ^ p.length) : ptrim p = bts n := by
  rw [← bts_trim]
  refine ptrim_ext fun k => ?_
  rw [bts_get]
  by_cases hk : k < p.length
  · exact h k hk
  · have h1 : n < 2 ^ k := Nat.lt_of_lt_of_le hn (Nat.pow_le_pow_right (by decide) (by omega))
    rw [btn_zero h1, List.getD_eq_getElem?_getD, List.getElem?_eq_none (by omega)]; rfl

theorem btn_mod (n i : Nat) : n % 2 ^ (i + 1) = n % 2 ^ i + btn n i * 2 ^ i := by
  unfold btn
  rw [Nat.pow_succ, Nat.mod_mul]
  rw [Nat.mul_comm]
/-- one step of an addition -/
theorem add_step (a b i : Nat) : let c := (a % 2 ^ i + b % 2 ^ i) / 2 ^ i; (btn a i + btn b i + c) % 2 = btn (a + b) i ∧ (btn a i + btn b i + c) / 2 = (a % 2 ^ (i + 1) + b % 2 ^ (i + 1)) / 2 ^ (i + 1) ∧ c ≤ 1 := by
  intro c
  have hp : 0 < 2 ^ i := Nat.pow_pos (by decide)
  have ha := Nat.mod_lt a hp
  have hb := Nat.mod_lt b hp
  obtain ⟨P, hP⟩ : ∃ P, P = 2 ^ i := ⟨_, rfl⟩
  have e1 : a % 2 ^ (i + 1) + b % 2 ^ (i + 1) = (a % 2 ^ i + b % 2 ^ i) + (btn a i + btn b i) * 2 ^ i := by rw [btn_mod, btn_mod, Nat.add_mul]; omega
  have e2 : (a % 2 ^ (i + 1) + b % 2 ^ (i + 1)) / 2 ^ i = c + (btn a i + btn b i) := by rw [e1, Nat.add_mul_div_right _ _ hp]
  have hc : c ≤ 1 := by
    have : c < 2 := (Nat.div_lt_iff_lt_mul hp).2 (by omega)
    omega
  refine ⟨?_, ?_, hc⟩
  · have h2 : (a + b) / 2 ^ i = (a / 2 ^ i + b / 2 ^ i) + c := by
      have h3 : a + b = (a % 2 ^ i + b % 2 ^ i) + (a / 2 ^ i + b / 2 ^ i) * 2 ^ i := by
        have h4 := Nat.div_add_mod a (2 ^ i)
        have h5 := Nat.div_add_mod b (2 ^ i)
        rw [Nat.add_mul, Nat.mul_comm (a / 2 ^ i), Nat.mul_comm (b / 2 ^ i)]
        omega
      have h6 : (a + b) / 2 ^ i = ((a % 2 ^ i + b % 2 ^ i) + (a / 2 ^ i + b / 2 ^ i) * 2 ^ i) / 2 ^ i := by rw [← h3]
      rw [h6, Nat.add_mul_div_right _ _ hp]
      omega
    show (btn a i + btn b i + c) % 2 = btn (a + b) i
    have h7 : btn (a + b) i = (a / 2 ^ i + b / 2 ^ i + c) % 2 := by unfold btn; rw [h2]
    have h8 : btn a i = a / 2 ^ i % 2 := rfl
    have h9 : btn b i = b / 2 ^ i % 2 := rfl
    rw [h7, h8, h9]
    omega
  · have h2 : (a % 2 ^ (i + 1) + b % 2 ^ (i + 1)) / 2 ^ (i + 1) = (a % 2 ^ (i + 1) + b % 2 ^ (i + 1)) / 2 ^ i / 2 := by rw [Nat.div_div_eq_div_mul, ← Nat.pow_succ]
    rw [h2, e2]
    congr 1; omega
/-- one step of a subtraction -/
theorem sub_step {a b : Nat} (h : b ≤ a) (i : Nat) : let c := if a % 2 ^ i < b % 2 ^ i then 1 else 0; ∃ s : Nat, (btn a i < btn b i + c → s + btn b i + c = btn a i + 2 ∧ a % 2 ^ (i + 1) < b % 2 ^ (i + 1)) ∧ (¬ btn a i < btn b i + c → s + btn b i + c = btn a i ∧ ¬ a % 2 ^ (i + 1) < b % 2 ^ (i + 1)) ∧ s = btn (a - b) i := by
  intro c
  have hp : 0 < 2 ^ i := Nat.pow_pos (by decide)
  have ha := Nat.mod_lt a hp
  have hb := Nat.mod_lt b hp
  have la := btn_lt a i
  have lb := btn_lt b i
  obtain ⟨P, hP⟩ : ∃ P, P = 2 ^ i := ⟨_, rfl⟩
  have ea := btn_mod a i
  have eb := btn_mod b i
  obtain ⟨x, hx⟩ : ∃ x, x = a / P := ⟨_, rfl⟩
  obtain ⟨y, hy⟩ : ∃ y, y = b / P := ⟨_, rfl⟩
  obtain ⟨r, hr⟩ : ∃ r, r = a % P := ⟨_, rfl⟩
  obtain ⟨t, ht⟩ : ∃ t, t = b % P := ⟨_, rfl⟩
  have da : P * x + r = a := by rw [hx, hr]; exact Nat.div_add_mod a P
  have db : P * y + t = b := by rw [hy, ht]; exact Nat.div_add_mod b P
  have ba : btn a i = x % 2 := by unfold btn; rw [hx, hP]
  have bb : btn b i = y % 2 := by unfold btn; rw [hy, hP]
  rw [← hP] at ha hb ea eb
  rw [← hr] at ha ea
  rw [← ht] at hb eb
  have hc : c = if r < t then 1 else 0 := by show (if a % 2 ^ i < b % 2 ^ i then 1 else 0) = _; rw [← hP, ← hr, ← ht]
  have hxy : y + c ≤ x := by
    rw [hc]
    split
    · refine Classical.byContradiction fun hn => ?_
      have : P * x ≤ P * y := Nat.mul_le_mul_left P (by omega)
      omega
    · refine Classical.byContradiction fun hn => ?_
      have : P * (x + 1) ≤ P * y := Nat.mul_le_mul_left P (by omega)
      rw [Nat.mul_add] at this
      omega
  have hd : (a - b) / P = x - y - c := by
    have h1 : a - b = (r + (if r < t then P else 0) - t) + (x - y - c) * P := by
      rw [hc] at hxy ⊢
      have h2 : (x - y - (if r < t then 1 else 0)) * P = P * x - P * y - (if r < t then P else 0) := by
        split <;> rw [Nat.sub_mul, Nat.sub_mul, Nat.mul_comm x, Nat.mul_comm y] <;> simp
      rw [h2]
      have h3 : P * y ≤ P * x := Nat.mul_le_mul_left P (by omega)
      split
      · rename_i hlt
        rw [if_pos hlt] at hxy
        have h4 : P * (y + 1) ≤ P * x := Nat.mul_le_mul_left P (by omega)
        rw [Nat.mul_add] at h4
        omega
      · omega
    rw [h1, Nat.add_mul_div_right _ _ (by omega)]
    have h5 : (r + (if r < t then P else 0) - t) / P = 0 := Nat.div_eq_of_lt (by split <;> omega)
    omega
  have bd : btn (a - b) i = (x - y - c) % 2 := by unfold btn; rw [← hP, hd]
  have hc1 : c ≤ 1 := by rw [hc]; split <;> omega
  have hsucc : 2 ^ (i + 1) = P * 2 := by rw [hP, Nat.pow_succ]
  refine ⟨btn (a - b) i, fun hlt => ?_, fun hlt => ?_, rfl⟩
  · refine ⟨by rw [bd, ba, bb] at *; omega, ?_⟩
    rw [ea, eb]
    have : btn a i * P ≤ btn a i * P := Nat.le_refl _
    rcases Nat.lt_or_ge (btn a i) (btn b i) with h1 | h1
    · have h2 : btn a i = 0 := by omega
      have h3 : btn b i = 1 := by omega
      rw [h2, h3]; omega
    · have h2 : btn a i = btn b i := by omega
      have h3 : c = 1 := by omega
      rw [h2]
      rw [hc] at h3
      split at h3
      · omega
      · omega
  · refine ⟨by rw [bd, ba, bb] at *; omega, ?_⟩
    rw [ea, eb]
    rcases Nat.lt_or_ge (btn b i) (btn a i) with h1 | h1
    · have h2 : btn b i = 0 := by omega
      have h3 : btn a i = 1 := by omega
      rw [h2, h3]; omega
    · have h2 : btn a i = btn b i := by omega
      have h3 : c = 0 := by omega
      rw [h2]
      rw [hc] at h3
      split at h3
      · omega
      · omega
end Go.Proofs.YtgblfpkfapmlnaaGreat

/- Digits to a base that is a power of 2: words of bits, the schoolbook product. Plain: no program. -/
namespace Go.Proofs.YtgblfpkfapmlnaaGreat

/-- the digit i to the base B -/
def dgt (B n i : Nat) : Nat := n / B ^ i % B
theorem dgt_lt {B : Nat} (hB : 0 < B) (n i : Nat) : dgt B n i < B := Nat.mod_lt _ hB
theorem mod_succ (B n i : Nat) : n % B ^ (i + 1) = n % B ^ i + dgt B n i * B ^ i := by
  unfold dgt
  rw [Nat.pow_succ, Nat.mod_mul, Nat.mul_comm]
theorem dgt_low {B : Nat} (hB : 0 < B) (u v : Nat) {m j : Nat} (hj : j < m) : dgt B (u + v * B ^ m) j = dgt B u j := by
  obtain ⟨d, rfl⟩ : ∃ d, m = j + 1 + d := ⟨m - (j + 1), by omega⟩
  have e : v * B ^ (j + 1 + d) = v * B ^ d * B * B ^ j := by rw [Nat.pow_add, Nat.pow_succ]; grind
  unfold dgt
  rw [e, Nat.add_mul_div_right _ _ (Nat.pow_pos hB), Nat.add_mul_mod_self_right]
theorem dgt_top {B n j : Nat} (h : n < B ^ (j + 1)) : dgt B n j = n / B ^ j := by
  unfold dgt
  refine Nat.mod_eq_of_lt ?_
  rw [Nat.pow_succ, Nat.mul_comm] at h
  exact Nat.div_lt_of_lt_mul (by rw [Nat.mul_comm]; exact h)
theorem dgt_zero {B n j : Nat} (h : n < B ^ j) : dgt B n j = 0 := by unfold dgt; rw [Nat.div_eq_of_lt h, Nat.zero_mod]
theorem two_pow_pos (s : Nat) : 0 < 2 ^ s := Nat.pow_pos (by decide)

/-- one bit more in a list of words -/
theorem word_step {s : Nat} (hs : 0 < s) (n k j : Nat) : dgt (2 ^ s) (n % 2 ^ (k + 1)) j = if j = k / s then dgt (2 ^ s) (n % 2 ^ k) j + btn n k * 2 ^ (k % s) else dgt (2 ^ s) (n % 2 ^ k) j := by
  have hk := Nat.div_add_mod k s
  have hr := Nat.mod_lt k hs
  obtain ⟨q, hq⟩ : ∃ q, q = k / s := ⟨_, rfl⟩
  obtain ⟨r, hr2⟩ : ∃ r, r = k % s := ⟨_, rfl⟩
  rw [← hq, ← hr2] at hk
  rw [← hr2] at hr
  rw [← hq, ← hr2, btn_mod]
  have e1 : 2 ^ k = 2 ^ r * (2 ^ s) ^ q := by rw [← Nat.pow_mul, ← Nat.pow_add]; congr 1; omega
  have e2 : btn n k * 2 ^ k = (btn n k * 2 ^ r) * (2 ^ s) ^ q := by rw [e1, Nat.mul_assoc]
  have hW : 0 < 2 ^ s := two_pow_pos s
  have hle : 2 ^ (k + 1) ≤ (2 ^ s) ^ (q + 1) := by
    rw [← Nat.pow_mul]
    exact Nat.pow_le_pow_right (by decide) (by rw [Nat.mul_succ]; omega)
  have hl1 : n % 2 ^ k + btn n k * 2 ^ k < 2 ^ (k + 1) := by rw [← btn_mod]; exact Nat.mod_lt _ (two_pow_pos _)
  have hl2 : n % 2 ^ k < 2 ^ (k + 1) := Nat.lt_of_le_of_lt (Nat.le_add_right _ _) hl1
  rcases Nat.lt_trichotomy j q with h | h | h
  · rw [if_neg (by omega), e2, dgt_low hW _ _ h]
  · subst h
    rw [if_pos rfl, dgt_top (Nat.lt_of_lt_of_le hl1 hle), dgt_top (Nat.lt_of_lt_of_le hl2 hle), e2, Nat.add_mul_div_right _ _ (Nat.pow_pos hW)]
  · rw [if_neg (by omega)]
    have h3 : (2 ^ s) ^ (q + 1) ≤ (2 ^ s) ^ j := Nat.pow_le_pow_right hW (by omega)
    rw [dgt_zero (Nat.lt_of_lt_of_le hl1 (Nat.le_trans hle h3)), dgt_zero (Nat.lt_of_lt_of_le hl2 (Nat.le_trans hle h3))]
theorem word_room {s : Nat} (hs : 0 < s) (n k : Nat) : dgt (2 ^ s) (n % 2 ^ k) (k / s) + btn n k * 2 ^ (k % s) < 2 ^ s := by
  have h := word_step hs n k (k / s)
  rw [if_pos rfl] at h
  rw [← h]
  exact dgt_lt (two_pow_pos s) _ _
/-- a bit of a word -/
theorem bit_of {s : Nat} (hs : 0 < s) (n i : Nat) : dgt (2 ^ s) n (i / s) / 2 ^ (i % s) % 2 = btn n i := by
  have hk := Nat.div_add_mod i s
  have hr := Nat.mod_lt i hs
  obtain ⟨q, hq⟩ : ∃ q, q = i / s := ⟨_, rfl⟩
  obtain ⟨r, hr2⟩ : ∃ r, r = i % s := ⟨_, rfl⟩
  rw [← hq, ← hr2] at hk
  rw [← hr2] at hr
  rw [← hq, ← hr2]
  unfold dgt btn
  have e1 : (2 : Nat) ^ s = 2 ^ r * 2 ^ (s - r) := by rw [← Nat.pow_add]; congr 1; omega
  have e2 : 2 ^ i = (2 ^ s) ^ q * 2 ^ r := by rw [← Nat.pow_mul, ← Nat.pow_add]; congr 1; omega
  have e3 : n / (2 ^ s) ^ q % 2 ^ s / 2 ^ r = n / (2 ^ s) ^ q / 2 ^ r % 2 ^ (s - r) := by
    conv => lhs; rw [e1]
    rw [Nat.mod_mul_right_div_self]
    rw [← e1]
  rw [e3, Nat.div_div_eq_div_mul, ← e2]
  refine Nat.mod_mod_of_dvd _ ?_
  obtain ⟨t, ht⟩ : ∃ t, s - r = t + 1 := ⟨s - r - 1, by omega⟩
  rw [ht, Nat.pow_succ]
  exact Nat.dvd_mul_left _ _

/-- how many words of s bits -/
def wln (s n : Nat) : Nat := (bln n + (s - 1)) / s
theorem lt_wln {s : Nat} (hs : 0 < s) (n : Nat) : n < (2 ^ s) ^ wln s n := by
  refine Nat.lt_of_lt_of_le (bln_lt n) ?_
  rw [← Nat.pow_mul]
  refine Nat.pow_le_pow_right (by decide) ?_
  unfold wln
  have h := Nat.div_add_mod (bln n + (s - 1)) s
  have h2 := Nat.mod_lt (bln n + (s - 1)) hs
  omega
theorem bit_word {s n k : Nat} (hs : 0 < s) (hk : k < bln n) : k / s < wln s n := by
  unfold wln
  refine (Nat.div_lt_iff_lt_mul hs).2 ?_
  have h := Nat.div_add_mod (bln n + (s - 1)) s
  have h2 := Nat.mod_lt (bln n + (s - 1)) hs
  rw [Nat.mul_comm]
  omega

/-- one step of the schoolbook product: the carry c, the word x, the word k of y -/
def mU (B N x y i k : Nat) : Nat := N % B ^ (i + k) + x * (y % B ^ k) * B ^ i
theorem mU_succ (B N x y i k : Nat) : mU B N x y i (k + 1) = mU B N x y i k + (dgt B N (i + k) + x * dgt B y k) * B ^ (i + k) := by
  unfold mU
  rw [← Nat.add_assoc, mod_succ, mod_succ, Nat.pow_add B i k]
  grind
theorem mU_zero (B N x y i : Nat) : mU B N x y i 0 = N % B ^ i := by unfold mU; rw [Nat.pow_zero, Nat.mod_one]; simp
theorem mU_lt {B : Nat} (hB : 0 < B) (N y i k : Nat) {x : Nat} (hx : x < B) : mU B N x y i k < B ^ (i + k + 1) := by
  unfold mU
  have h1 := Nat.mod_lt N (Nat.pow_pos hB (n := i + k))
  have h2 := Nat.mod_lt y (Nat.pow_pos hB (n := k))
  have h3 : x * (y % B ^ k) * B ^ i ≤ (B - 1) * B ^ (i + k) := by
    rw [Nat.pow_add, Nat.mul_comm (B ^ i), ← Nat.mul_assoc]
    exact Nat.mul_le_mul_right _ (Nat.mul_le_mul (by omega) (by omega))
  have h4 : B ^ (i + k + 1) = B ^ (i + k) + (B - 1) * B ^ (i + k) := by
    obtain ⟨C, rfl⟩ : ∃ C, B = C + 1 := ⟨B - 1, by omega⟩
    rw [Nat.pow_succ, Nat.add_sub_cancel]; grind
  omega
theorem mul_step {B : Nat} (hB : 0 < B) (N y i k : Nat) {x : Nat} (hx : x < B) {v : Nat} (hv : v = dgt B N (i + k) + x * dgt B y k + mU B N x y i k / B ^ (i + k)) :
    v % B = dgt B (mU B N x y i (k + 1)) (i + k) ∧ v / B = mU B N x y i (k + 1) / B ^ (i + k + 1) ∧ (∀ j, j < i + k → dgt B (mU B N x y i (k + 1)) j = dgt B (mU B N x y i k) j) ∧ mU B N x y i k / B ^ (i + k) < B := by
  have hp : 0 < B ^ (i + k) := Nat.pow_pos hB
  have e : mU B N x y i (k + 1) / B ^ (i + k) = v := by
    rw [mU_succ, Nat.add_mul_div_right _ _ hp, hv]; omega
  refine ⟨by unfold dgt; rw [e], by rw [Nat.pow_succ, ← Nat.div_div_eq_div_mul, e], fun j hj => ?_, ?_⟩
  · rw [mU_succ, dgt_low hB _ _ hj]
  · have := mU_lt hB N y i k hx
    rw [Nat.pow_succ] at this
    exact Nat.div_lt_of_lt_mul this
/-- the whole row -/
theorem mU_full {B : Nat} (a y i l : Nat) (hy : y < B ^ l) (hB : 0 < B) : mU B (a % B ^ i * y) (dgt B a i) y i l = a % B ^ (i + 1) * y := by
  unfold mU
  have h1 : a % B ^ i * y < B ^ (i + l) := by
    rw [Nat.pow_add]
    have := Nat.mod_lt a (Nat.pow_pos hB (n := i))
    rcases Nat.eq_zero_or_pos y with h | h
    · subst h; rw [Nat.mul_zero]; exact Nat.mul_pos (Nat.pow_pos hB) (Nat.pow_pos hB)
    · exact Nat.mul_lt_mul'' this hy
  rw [Nat.mod_eq_of_lt h1, Nat.mod_eq_of_lt hy, mod_succ]
  grind
theorem row_lt {B : Nat} (a y i l : Nat) (hy : y < B ^ l) (hB : 0 < B) : a % B ^ i * y < B ^ (i + l) := by
  rw [Nat.pow_add]
  have := Nat.mod_lt a (Nat.pow_pos hB (n := i))
  rcases Nat.eq_zero_or_pos y with h | h
  · subst h; rw [Nat.mul_zero]; exact Nat.mul_pos (Nat.pow_pos hB) (Nat.pow_pos hB)
  · exact Nat.mul_lt_mul'' this hy

/-- the comparison -/
theorem cmp_top {a b i : Nat} (h : a / 2 ^ (i + 1) = b / 2 ^ (i + 1)) : (btn a i = btn b i → a / 2 ^ i = b / 2 ^ i) ∧ (btn a i < btn b i → a < b) ∧ (btn b i < btn a i → b < a) := by
  have e : ∀ n, n / 2 ^ i = 2 * (n / 2 ^ (i + 1)) + btn n i := fun n => by
    unfold btn
    rw [Nat.pow_succ, ← Nat.div_div_eq_div_mul]
    have := Nat.div_add_mod (n / 2 ^ i) 2
    omega
  have ea := e a
  have eb := e b
  rw [← h] at eb
  refine ⟨fun h1 => by omega, fun h1 => ?_, fun h1 => ?_⟩
  · refine Classical.byContradiction fun hn => ?_
    have := Nat.div_le_div_right (c := 2 ^ i) (show b ≤ a by omega)
    omega
  · refine Classical.byContradiction fun hn => ?_
    have := Nat.div_le_div_right (c := 2 ^ i) (show a ≤ b by omega)
    omega

/- the digits to the base 2^32 -/
theorem BBp : BB = 2 ^ 32 := by rw [BB_eq]
theorem val_digit {ds : List Nat} (h : Wd ds) : ∀ q, ds.getD q 0 = dgt BB (val ds) q := by
  induction ds with
  | nil => intro q; simp [val, dgt]
  | cons d ds ih =>
    intro q
    have hd := h.head
    cases q with
    | zero =>
      unfold dgt
      rw [Nat.pow_zero, Nat.div_one]
      show d = (d + BB * val ds) % BB
      rw [Nat.add_mul_mod_self_left, Nat.mod_eq_of_lt hd]
    | succ q =>
      rw [List.getD_cons_succ, ih h.tail]
      unfold dgt
      rw [Nat.pow_succ, Nat.mul_comm, ← Nat.div_div_eq_div_mul]
      show _ = (d + BB * val ds) / BB / BB ^ q % BB
      rw [Nat.add_mul_div_left _ _ BB_pos, Nat.div_eq_of_lt hd, Nat.zero_add]
theorem digs_get (n q : Nat) : (digs n).getD q 0 = dgt BB n q := by
  have := val_digit (digs_wd n) q
  rw [val_digs] at this
  exact this
theorem dlen_wln (n : Nat) : dlen n = wln 32 n := by
  refine Nat.le_antisymm ?_ ?_
  · refine dlen_le_of_lt ?_
    rw [BBp]
    exact lt_wln (by decide) n
  · have h := lt_pow_dlen n
    rw [BBp, ← Nat.pow_mul] at h
    have := bln_le h
    unfold wln
    omega
/-- the list of the values of F below n -/
def tab (n : Nat) (F : Nat → Int) : List Int := (List.range n).map F
theorem tab_length (n : Nat) (F : Nat → Int) : (tab n F).length = n := by simp [tab]
theorem tab_get {n : Nat} (F : Nat → Int) {j : Nat} (h : j < n) : (tab n F).getD j 0 = F j := by simp [tab, List.getD_eq_getElem?_getD, h]
theorem tab_set (n : Nat) (F : Nat → Int) (i : Nat) (x : Int) : (tab n F).set i x = tab n (fun t => if t = i then x else F t) := by
  refine List.ext_getElem? fun j => ?_
  by_cases hj : j < n
  · by_cases h : i = j
    · subst h; simp [tab, hj]
    · simp [tab, hj, h, Ne.symm h]
  · simp [tab, hj]
theorem tab_zero (n : Nat) : List.replicate n (0 : Int) = tab n (fun _ => 0) := by
  refine List.ext_getElem? fun j => ?_
  by_cases hj : j < n <;> simp [tab, hj]
theorem tab_ext {n : Nat} {F G : Nat → Int} (h : ∀ j, j < n → F j = G j) : tab n F = tab n G := List.map_congr_left fun j hj => h j (List.mem_range.1 hj)
theorem tab_self (p : List Int) : tab p.length (fun j => p.getD j 0) = p := by
  refine List.ext_getElem? fun j => ?_
  by_cases hj : j < p.length
  · simp [tab, List.getD_eq_getElem?_getD, hj]
  · simp [tab, hj]

end Go.Proofs.YtgblfpkfapmlnaaGreat

/- Long division of the reference, digit by digit. Plain: no program. -/
namespace Go.Proofs.YtgblfpkfapmlnaaGreat

/-- doubling with a carry -/
def dbT (B R c k : Nat) : Nat := 2 * (R % B ^ k) + c
def dbr (B R c k j : Nat) : Nat := if j < k then dgt B (dbT B R c k) j else dgt B R j
theorem dbT_succ (B R c k : Nat) : dbT B R c (k + 1) = dbT B R c k + (2 * dgt B R k) * B ^ k := by
  unfold dbT
  rw [mod_succ]; grind
theorem db_step {B : Nat} (hB : 0 < B) (R c k : Nat) {v : Nat} (hv : v = 2 * dgt B R k + dbT B R c k / B ^ k) : (∀ j, (if j = k then v % B else dbr B R c k j) = dbr B R c (k + 1) j) ∧ v / B = dbT B R c (k + 1) / B ^ (k + 1) := by
  have hp : 0 < B ^ k := Nat.pow_pos hB
  have e : dbT B R c (k + 1) / B ^ k = v := by rw [dbT_succ, Nat.add_mul_div_right _ _ hp, hv]; omega
  refine ⟨fun j => ?_, by rw [Nat.pow_succ, ← Nat.div_div_eq_div_mul, e]⟩
  unfold dbr
  by_cases h : j = k
  · rw [if_pos h, if_pos (by omega), h]; unfold dgt; rw [e]
  · rw [if_neg h]
    by_cases h2 : j < k
    · rw [if_pos h2, if_pos (by omega), dbT_succ, dgt_low hB _ _ h2]
    · rw [if_neg h2, if_neg (by omega)]
theorem dbT_carry {B : Nat} (hB : 1 < B) (R k : Nat) {c : Nat} (hc : c ≤ 1) : dbT B R c k / B ^ k ≤ 1 := by
  have hp : 0 < B ^ k := Nat.pow_pos (by omega)
  have h1 := Nat.mod_lt R hp
  have : dbT B R c k / B ^ k < 2 := (Nat.div_lt_iff_lt_mul hp).2 (by unfold dbT; omega)
  omega
theorem db_full {B R c n : Nat} (h : R < B ^ n) (j : Nat) (hj : j < n) : dbr B R c n j = dgt B (2 * R + c) j := by
  unfold dbr dbT
  rw [if_pos hj, Nat.mod_eq_of_lt h]
theorem db_zero (B R c j : Nat) : dbr B R c 0 j = dgt B R j := by unfold dbr; rw [if_neg (by omega)]

/-- the comparison from the top digit -/
theorem dcmp_top {B a b i : Nat} (h : a / B ^ (i + 1) = b / B ^ (i + 1)) : (dgt B a i = dgt B b i → a / B ^ i = b / B ^ i) ∧ (dgt B a i < dgt B b i → a < b) ∧ (dgt B b i < dgt B a i → b < a) := by
  have e : ∀ n, n / B ^ i = B * (n / B ^ (i + 1)) + dgt B n i := fun n => by
    unfold dgt
    rw [Nat.pow_succ, ← Nat.div_div_eq_div_mul]
    have := Nat.div_add_mod (n / B ^ i) B
    omega
  have ea := e a
  have eb := e b
  rw [← h] at eb
  refine ⟨fun h1 => by omega, fun h1 => ?_, fun h1 => ?_⟩
  · refine Classical.byContradiction fun hn => ?_
    have := Nat.div_le_div_right (c := B ^ i) (show b ≤ a by omega)
    omega
  · refine Classical.byContradiction fun hn => ?_
    have := Nat.div_le_div_right (c := B ^ i) (show a ≤ b by omega)
    omega
theorem dcmp_end {B a b k : Nat} (h : a / B ^ (k + 1) = b / B ^ (k + 1)) (hk : k = 0 ∨ dgt B a k ≠ dgt B b k) : dgt B a k < dgt B b k ↔ a < b := by
  obtain ⟨h1, h2, h3⟩ := dcmp_top h
  refine ⟨h2, fun h4 => ?_⟩
  refine Classical.byContradiction fun hn => ?_
  rcases Nat.lt_or_ge (dgt B b k) (dgt B a k) with h5 | h5
  · have := h3 h5; omega
  · have h6 : dgt B a k = dgt B b k := by omega
    rcases hk with rfl | hk
    · have := h1 h6
      rw [Nat.pow_zero, Nat.div_one, Nat.div_one] at this
      omega
    · exact hk h6

/-- one digit of a difference -/
def sbr (B a b k j : Nat) : Nat := if j < k then dgt B (a - b) j else dgt B a j
def sbw (B a b k : Nat) : Nat := if a % B ^ k < b % B ^ k then 1 else 0
theorem sb_step {B a b : Nat} (hB : 0 < B) (h : b ≤ a) (i : Nat) : ∃ s : Nat, (dgt B a i < dgt B b i + sbw B a b i → s + dgt B b i + sbw B a b i = dgt B a i + B ∧ sbw B a b (i + 1) = 1) ∧ (¬ dgt B a i < dgt B b i + sbw B a b i → s + dgt B b i + sbw B a b i = dgt B a i ∧ sbw B a b (i + 1) = 0) ∧ s = dgt B (a - b) i := by
  obtain ⟨c, hcd⟩ : ∃ c, c = sbw B a b i := ⟨_, rfl⟩
  rw [← hcd]
  unfold sbw at hcd ⊢
  have hp : 0 < B ^ i := Nat.pow_pos hB
  have ha := Nat.mod_lt a hp
  have hb := Nat.mod_lt b hp
  have la := dgt_lt hB a i
  have lb := dgt_lt hB b i
  obtain ⟨P, hP⟩ : ∃ P, P = B ^ i := ⟨_, rfl⟩
  have ea := mod_succ B a i
  have eb := mod_succ B b i
  obtain ⟨x, hx⟩ : ∃ x, x = a / P := ⟨_, rfl⟩
  obtain ⟨y, hy⟩ : ∃ y, y = b / P := ⟨_, rfl⟩
  obtain ⟨r, hr⟩ : ∃ r, r = a % P := ⟨_, rfl⟩
  obtain ⟨t, ht⟩ : ∃ t, t = b % P := ⟨_, rfl⟩
  have da : P * x + r = a := by rw [hx, hr]; exact Nat.div_add_mod a P
  have db : P * y + t = b := by rw [hy, ht]; exact Nat.div_add_mod b P
  obtain ⟨u, hu⟩ : ∃ u, u = dgt B a i := ⟨_, rfl⟩
  obtain ⟨v, hv⟩ : ∃ v, v = dgt B b i := ⟨_, rfl⟩
  have ba : u = x % B := by rw [hu, hx, hP]; rfl
  have bb : v = y % B := by rw [hv, hy, hP]; rfl
  rw [← hP] at ha hb ea eb hcd
  rw [← hr] at ha ea hcd
  rw [← ht] at hb eb hcd
  rw [← hu] at la ea ⊢
  rw [← hv] at lb eb ⊢
  rw [ea, eb]
  have hc1 : c ≤ 1 := by rw [hcd]; split <;> omega
  have hxy : y + c ≤ x := by
    rw [hcd]
    split
    · refine Classical.byContradiction fun hn => ?_
      have : P * x ≤ P * y := Nat.mul_le_mul_left P (by omega)
      omega
    · refine Classical.byContradiction fun hn => ?_
      have : P * (x + 1) ≤ P * y := Nat.mul_le_mul_left P (by omega)
      rw [Nat.mul_add] at this
      omega
  have hd : (a - b) / P = x - y - c := by
    have h1 : a - b = (r + (if r < t then P else 0) - t) + (x - y - c) * P := by
      rw [hcd] at hxy ⊢
      have h2 : (x - y - (if r < t then 1 else 0)) * P = P * x - P * y - (if r < t then P else 0) := by
        split <;> rw [Nat.sub_mul, Nat.sub_mul, Nat.mul_comm x, Nat.mul_comm y] <;> simp
      rw [h2]
      have h3 : P * y ≤ P * x := Nat.mul_le_mul_left P (by omega)
      split
      · rename_i hlt
        rw [if_pos hlt] at hxy
        have h4 : P * (y + 1) ≤ P * x := Nat.mul_le_mul_left P (by omega)
        rw [Nat.mul_add] at h4
        omega
      · omega
    rw [h1, Nat.add_mul_div_right _ _ (by omega)]
    have h5 : (r + (if r < t then P else 0) - t) / P = 0 := Nat.div_eq_of_lt (by split <;> omega)
    omega
  have bd : dgt B (a - b) i = (x - y - c) % B := by unfold dgt; rw [← hP, hd]
  have hX := Nat.div_add_mod x B
  have hY := Nat.div_add_mod y B
  rw [← ba] at hX
  rw [← bb] at hY
  have hmul : ∀ {p q : Nat}, p < q → p * P + P ≤ q * P := fun {p q} h => by
    have := Nat.mul_le_mul_right P (show p + 1 ≤ q from h)
    rw [Nat.add_mul, Nat.one_mul] at this
    exact this
  refine ⟨dgt B (a - b) i, fun hlt => ?_, fun hlt => ?_, rfl⟩
  · have hq : y / B + 1 ≤ x / B := by
      refine Classical.byContradiction fun hn => ?_
      have : B * (x / B) ≤ B * (y / B) := Nat.mul_le_mul_left B (by omega)
      omega
    have e1 : x - y - c = (u + B - v - c) + (x / B - (y / B + 1)) * B := by
      have h2 : (x / B - (y / B + 1)) * B = B * (x / B) - (B * (y / B) + B) := by rw [Nat.sub_mul, Nat.add_mul, Nat.one_mul, Nat.mul_comm (x / B), Nat.mul_comm (y / B)]
      have h3 : B * (y / B) + B ≤ B * (x / B) := by
        have := Nat.mul_le_mul_left B hq
        rw [Nat.mul_add, Nat.mul_one] at this
        exact this
      omega
    refine ⟨?_, ?_⟩
    · rw [bd, e1, Nat.add_mul_mod_self_right, Nat.mod_eq_of_lt (by omega)]; omega
    · rw [if_pos]
      rcases Nat.lt_or_ge u v with h1 | h1
      · have := hmul h1; omega
      · have h2 : u = v := by omega
        have h3 : c = 1 := by omega
        rw [h2]
        rw [hcd] at h3
        split at h3 <;> omega
  · have hq : y / B ≤ x / B := Nat.div_le_div_right (by omega)
    have e1 : x - y - c = (u - v - c) + (x / B - y / B) * B := by
      have h2 : (x / B - y / B) * B = B * (x / B) - B * (y / B) := by rw [Nat.sub_mul, Nat.mul_comm (x / B), Nat.mul_comm (y / B)]
      have h3 : B * (y / B) ≤ B * (x / B) := Nat.mul_le_mul_left B hq
      omega
    refine ⟨?_, ?_⟩
    · rw [bd, e1, Nat.add_mul_mod_self_right, Nat.mod_eq_of_lt (by omega)]; omega
    · rw [if_neg]
      rcases Nat.lt_or_ge v u with h1 | h1
      · have := hmul h1; omega
      · have h2 : u = v := by omega
        have h3 : c = 0 := by omega
        rw [h2]
        rw [hcd] at h3
        split at h3 <;> omega
theorem sbr_set (B a b k : Nat) {s : Nat} (hs : s = dgt B (a - b) k) (j : Nat) : (if j = k then s else sbr B a b k j) = sbr B a b (k + 1) j := by
  unfold sbr
  by_cases h : j = k
  · rw [if_pos h, if_pos (by omega), h, hs]
  · rw [if_neg h]
    by_cases h2 : j < k
    · rw [if_pos h2, if_pos (by omega)]
    · rw [if_neg h2, if_neg (by omega)]

/-- the bits of the quotient -/
theorem quo_step {a b : Nat} (hb : 0 < b) (i : Nat) : let R := a / 2 ^ (i + 1) % b; (2 * R + btn a i < b → btn (a / b) i = 0 ∧ a / 2 ^ i % b = 2 * R + btn a i) ∧ (b ≤ 2 * R + btn a i → btn (a / b) i = 1 ∧ a / 2 ^ i % b = 2 * R + btn a i - b) := by
  intro R
  have h1 : a / 2 ^ i = 2 * (a / 2 ^ (i + 1)) + btn a i := by
    unfold btn
    rw [Nat.pow_succ, ← Nat.div_div_eq_div_mul]
    have := Nat.div_add_mod (a / 2 ^ i) 2
    omega
  have hR : R < b := Nat.mod_lt _ hb
  have h2 := Nat.div_add_mod (a / 2 ^ (i + 1)) b
  obtain ⟨q, hq⟩ : ∃ q, q = a / 2 ^ (i + 1) / b := ⟨_, rfl⟩
  rw [← hq] at h2
  have h3 : a / 2 ^ i = (2 * R + btn a i) + b * (2 * q) := by
    rw [h1]
    have : R = a / 2 ^ (i + 1) % b := rfl
    rw [← this] at h2
    have : b * (2 * q) = 2 * (b * q) := by grind
    omega
  have hx := btn_lt a i
  have h4 : btn (a / b) i = a / 2 ^ i / b % 2 := by
    unfold btn
    rw [Nat.div_div_eq_div_mul, Nat.mul_comm, ← Nat.div_div_eq_div_mul]
  refine ⟨fun hlt => ?_, fun hge => ?_⟩
  · exact ⟨by rw [h4, h3, Nat.add_mul_div_left _ _ hb, Nat.div_eq_of_lt hlt]; omega, by rw [h3, Nat.add_mul_mod_self_left, Nat.mod_eq_of_lt hlt]⟩
  · have e : (2 * R + btn a i) + b * (2 * q) = (2 * R + btn a i - b) + b * (2 * q + 1) := by rw [Nat.mul_add, Nat.mul_one]; omega
    have hlt : 2 * R + btn a i - b < b := by omega
    exact ⟨by rw [h4, h3, e, Nat.add_mul_div_left _ _ hb, Nat.div_eq_of_lt hlt]; omega, by rw [h3, e, Nat.add_mul_mod_self_left, Nat.mod_eq_of_lt hlt]⟩
end Go.Proofs.YtgblfpkfapmlnaaGreat
