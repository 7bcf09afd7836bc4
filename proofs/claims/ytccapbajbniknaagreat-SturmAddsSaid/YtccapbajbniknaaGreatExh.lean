/- The exact division answers whether the divisor divides over the integers; its numbers are small. Plain: no program. -/
import Derived.Test.YtccapbajbniknaaGreatIdP
import Derived.Test.YtccapbajbniknaaGreatGti
import Derived.Test.YtccapbajbniknaaGreatDer
/- The exact division of polynomials: the plain steps. No program. -/
namespace Go.Proofs.YtccapbajbniknaaGreat
open Go.RowKit

/-- the row of the rest when j coefficients of one step are done -/
def exRow (fac : Int) (g : List Int) (low : Nat) (z : List Int) (j : Nat) : List Int := (List.range z.length).map fun t => if low ≤ t ∧ t < low + j then z.getD t 0 - fac * g.getD (t - low) 0 else z.getD t 0
theorem exRow_length (fac : Int) (g : List Int) (low : Nat) (z : List Int) (j : Nat) : (exRow fac g low z j).length = z.length := by simp [exRow]
theorem exRow_getE (fac : Int) (g : List Int) (low : Nat) (z : List Int) (j : Nat) {t : Nat} (h : t < z.length) : (exRow fac g low z j)[t]? = some (if low ≤ t ∧ t < low + j then z.getD t 0 - fac * g.getD (t - low) 0 else z.getD t 0) := by
  rw [exRow, List.getElem?_map, List.getElem?_range h]; rfl
theorem exRow_get (fac : Int) (g : List Int) (low : Nat) (z : List Int) (j : Nat) {t : Nat} (h : t < z.length) : (exRow fac g low z j).getD t 0 = if low ≤ t ∧ t < low + j then z.getD t 0 - fac * g.getD (t - low) 0 else z.getD t 0 := by
  rw [List.getD_eq_getElem?_getD, exRow_getE fac g low z j h]; rfl
theorem exRow_zero (fac : Int) (g : List Int) (low : Nat) (z : List Int) : exRow fac g low z 0 = z := by
  refine List.ext_getElem? fun t => ?_
  rcases Nat.lt_or_ge t z.length with h | h
  · rw [exRow_getE fac g low z 0 h, if_neg (by omega), List.getD_eq_getElem?_getD, List.getElem?_eq_getElem h]; rfl
  · rw [List.getElem?_eq_none (by rw [exRow_length]; exact h), List.getElem?_eq_none h]
theorem exRow_set (fac : Int) (g : List Int) (low : Nat) (z : List Int) {j : Nat} (_hj : low + j < z.length) : (exRow fac g low z j).set (low + j) (z.getD (low + j) 0 - fac * g.getD j 0) = exRow fac g low z (j + 1) := by
  refine List.ext_getElem? fun t => ?_
  rcases Nat.lt_or_ge t z.length with h | h
  · rw [exRow_getE fac g low z (j + 1) h]
    rcases Nat.decEq t (low + j) with hne | heq
    · rw [List.getElem?_set_ne (by omega), exRow_getE fac g low z j h]
      congr 1
      by_cases h1 : low ≤ t ∧ t < low + j
      · rw [if_pos h1, if_pos (by omega)]
      · rw [if_neg h1, if_neg (by omega)]
    · subst heq
      rw [List.getElem?_set_self (by rw [exRow_length]; exact h), if_pos (by omega), show low + j - low = j by omega]
  · rw [List.getElem?_eq_none (by rw [List.length_set, exRow_length]; exact h), List.getElem?_eq_none (by rw [exRow_length]; exact h)]

/-- quotient and rest after t steps: the divisor has the degree d, the quotient m coefficients -/
def exn (lead : Int) (g : List Int) (d m : Nat) (z0 : List Int) : Nat → List Int × List Int
  | 0 => (List.replicate m 0, z0)
  | t + 1 =>
    let s := exn lead g d m z0 t
    let low := m - 1 - t
    let fac := (s.2.getD (low + d) 0).tdiv lead
    (s.1.set low fac, exRow fac g low s.2 (d + 1))
theorem exn_length1 (lead : Int) (g : List Int) (d m : Nat) (z0 : List Int) (t : Nat) : (exn lead g d m z0 t).1.length = m := by
  induction t with
  | zero => simp [exn]
  | succ t ih => simp only [exn, List.length_set, ih]
theorem exn_length2 (lead : Int) (g : List Int) (d m : Nat) (z0 : List Int) (t : Nat) : (exn lead g d m z0 t).2.length = z0.length := by
  induction t with
  | zero => simp [exn]
  | succ t ih => simp only [exn, exRow_length, ih]

/-- the division of f by g leaves nothing, and all numbers on the way are small -/
structure ExOK (D : Nat) (f g : List Int) : Prop where
  mok : ∀ t, t < plen f - (plen g - 1) → ∀ j, MulOK (((exn (plead g) g (plen g - 1) (plen f - (plen g - 1)) (ptrim f) t).2.getD (plen f - (plen g - 1) - 1 - t + (plen g - 1)) 0).tdiv (plead g)).natAbs (g.getD j 0).natAbs
  step : ∀ t, t < plen f - (plen g - 1) → ((exn (plead g) g (plen g - 1) (plen f - (plen g - 1)) (ptrim f) t).2.getD (plen f - (plen g - 1) - 1 - t + (plen g - 1)) 0).tmod (plead g) = 0
  dl : ∀ t, t ≤ plen f - (plen g - 1) → Dl D (exn (plead g) g (plen g - 1) (plen f - (plen g - 1)) (ptrim f) t).2
  rest : plen (exn (plead g) g (plen g - 1) (plen f - (plen g - 1)) (ptrim f) (plen f - (plen g - 1))).2 = 0
/-- the quotient -/
def pexq (f g : List Int) : List Int := (exn (plead g) g (plen g - 1) (plen f - (plen g - 1)) (ptrim f) (plen f - (plen g - 1))).1
end Go.Proofs.YtccapbajbniknaaGreat

/- The exact division of a product by one factor gives the other one. Plain: no program. -/
namespace Go.Proofs.YtccapbajbniknaaGreat

/-- the sum of the first products -/
def qcs (f g : List Int) (j : Nat) : Nat → Int
  | 0 => 0
  | m + 1 => qcs f g j m + (if m ≤ j then f.getD m 0 * g.getD (j - m) 0 else 0)
theorem qcs_pcs (f g : List Int) (j : Nat) : ∀ m, m ≤ j + 1 → qcs f g j m = pcs f g j m
  | 0, _ => rfl
  | m + 1, h => by rw [qcs, pcs, qcs_pcs f g j m (by omega), if_pos (by omega)]
theorem qcs_high (f g : List Int) (j m : Nat) : ∀ d, j + 1 ≤ m → qcs f g j (m + d) = qcs f g j m
  | 0, _ => rfl
  | d + 1, h => by rw [← Nat.add_assoc, qcs, qcs_high f g j m d h, if_neg (by omega), Int.add_zero]
theorem qcs_zero (f g : List Int) (j m : Nat) (h : plen f ≤ m) : ∀ d, qcs f g j (m + d) = qcs f g j m
  | 0 => rfl
  | d + 1 => by rw [← Nat.add_assoc, qcs, qcs_zero f g j m h d, getD_ge_plen f _ (by omega)]; simp
theorem qcs_pc (f g : List Int) (j m : Nat) (hm : plen f ≤ m) : qcs f g j m = pc f g j := by
  unfold pc
  rw [← qcs_pcs f g j (j + 1) (Nat.le_refl _)]
  by_cases h : m ≤ j + 1
  · obtain ⟨d, hd⟩ : ∃ d, j + 1 = m + d := ⟨j + 1 - m, by omega⟩
    rw [hd, qcs_zero f g j _ hm]
  · obtain ⟨d, hd⟩ : ∃ d, m = j + 1 + d := ⟨m - (j + 1), by omega⟩
    rw [hd, qcs_high f g j _ d (Nat.le_refl _)]
theorem qcs_bd {f g : List Int} {X Y : Nat} (hf : ∀ j, (f.getD j 0).natAbs ≤ X) (hg : ∀ j, (g.getD j 0).natAbs ≤ Y) (j : Nat) : ∀ m, (qcs f g j m).natAbs ≤ m * (X * Y)
  | 0 => by simp [qcs]
  | m + 1 => by
    rw [qcs]
    have h1 := qcs_bd hf hg j m
    have h2 : (if m ≤ j then f.getD m 0 * g.getD (j - m) 0 else 0 : Int).natAbs ≤ X * Y := by
      split
      · rw [Int.natAbs_mul]; exact Nat.mul_le_mul (hf m) (hg (j - m))
      · simp
    have h3 := Int.natAbs_add_le (qcs f g j m) (if m ≤ j then f.getD m 0 * g.getD (j - m) 0 else 0)
    rw [Nat.succ_mul]
    omega

section
variable {f g q : List Int} {m d : Nat}
/-- rest and quotient after t steps -/
theorem exn_prod (hfq : ∀ k, f.getD k 0 = pc q g k) (hq : plen q = m) (hgd : plen g = d + 1) (hm : 1 ≤ m) (hf : plen f = m + d) : ∀ t, t ≤ m → (∀ k, k < m + d → (exn (plead g) g d m (ptrim f) t).2.getD k 0 = qcs q g k (m - t)) ∧ (∀ j, j < m → (exn (plead g) g d m (ptrim f) t).1.getD j 0 = if m - t ≤ j then q.getD j 0 else 0)
  | 0, _ => by
    refine ⟨fun k hk => ?_, fun j hj => ?_⟩
    · show (ptrim f).getD k 0 = _
      rw [ptrim_getD, hfq, Nat.sub_zero, qcs_pc q g k m (by omega)]
    · show (List.replicate m (0 : Int)).getD j 0 = _
      rw [if_neg (by omega)]
      simp [List.getD_eq_getElem?_getD, hj]
  | t + 1, ht => by
    obtain ⟨i1, i2⟩ := exn_prod hfq hq hgd hm hf t (by omega)
    have hld : plead g = g.getD d 0 := by unfold plead; rw [hgd]; rfl
    have hl0 : g.getD d 0 ≠ 0 := plen_lead g d (by omega)
    have l1 := exn_length1 (plead g) g d m (ptrim f) t
    have l2 := exn_length2 (plead g) g d m (ptrim f) t
    rw [ptrim_length, hf] at l2
    obtain ⟨low, hlow⟩ : ∃ low, m - t = low + 1 := ⟨m - t - 1, by omega⟩
    have hlow2 : m - 1 - t = low := by omega
    have hlow3 : m - (t + 1) = low := by omega
    have hz : (exn (plead g) g d m (ptrim f) t).2.getD (low + d) 0 = q.getD low 0 * plead g := by
      rw [i1 _ (by omega), hlow, qcs, if_pos (by omega), show low + d - low = d by omega, hld]
      have : qcs q g (low + d) low = 0 := by
        suffices h : ∀ i, i ≤ low → qcs q g (low + d) i = 0 from h low (Nat.le_refl _)
        intro i
        induction i with
        | zero => intro _; rfl
        | succ i ih =>
          intro hi
          rw [qcs, ih (by omega), if_pos (by omega), getD_ge_plen g (low + d - i) (by omega)]
          simp
      rw [this, Int.zero_add]
    have hfac : ((exn (plead g) g d m (ptrim f) t).2.getD (low + d) 0).tdiv (plead g) = q.getD low 0 := by
      rw [hz]; exact Int.mul_tdiv_cancel _ (by rw [hld]; exact hl0)
    refine ⟨fun k hk => ?_, fun j hj => ?_⟩
    · show (exRow (((exn (plead g) g d m (ptrim f) t).2.getD (m - 1 - t + d) 0).tdiv (plead g)) g (m - 1 - t) (exn (plead g) g d m (ptrim f) t).2 (d + 1)).getD k 0 = _
      rw [hlow2, hfac, exRow_get _ _ _ _ _ (by rw [l2]; exact hk), hlow3, i1 k hk, hlow, qcs]
      by_cases h1 : low ≤ k ∧ k < low + (d + 1)
      · rw [if_pos h1, if_pos h1.1]; omega
      · rw [if_neg h1]
        by_cases h2 : low ≤ k
        · rw [if_pos h2, getD_ge_plen g (k - low) (by omega), Int.mul_zero, Int.add_zero]
        · rw [if_neg h2, Int.add_zero]
    · show ((exn (plead g) g d m (ptrim f) t).1.set (m - 1 - t) (((exn (plead g) g d m (ptrim f) t).2.getD (m - 1 - t + d) 0).tdiv (plead g))).getD j 0 = _
      rw [hlow2, hfac, hlow3]
      by_cases h1 : j = low
      · subst h1
        rw [if_pos (Nat.le_refl _), List.getD_eq_getElem?_getD, List.getElem?_set_self (by rw [l1]; exact hj)]; rfl
      · rw [List.getD_eq_getElem?_getD, List.getElem?_set_ne (Ne.symm h1), ← List.getD_eq_getElem?_getD, i2 j hj, hlow]
        by_cases h2 : low + 1 ≤ j
        · rw [if_pos h2, if_pos (by omega)]
        · rw [if_neg h2, if_neg (by omega)]

/-- a product is divided exactly -/
theorem exact_prod (hfq : ∀ k, f.getD k 0 = pc q g k) (tq : ptrim q = q) (q0 : plen q ≠ 0) (g0 : plen g ≠ 0) (fq : FitP q) (fg : FitP g) (hl : plen q ≤ 1000) : ExOK 1000000000 f g ∧ pexq f g = q := by
  obtain ⟨m, hm⟩ : ∃ m, plen q = m := ⟨_, rfl⟩
  obtain ⟨d, hd⟩ : ∃ d, plen g = d + 1 := ⟨plen g - 1, by omega⟩
  have hpf : plen f = m + d := by
    have h1 := (plen_mul (f := q) (g := g) (by omega) (by omega)).1
    have h2 : ptrim f = ptrim (polymul q g) := ptrim_ext fun k => by rw [hfq, polymul_getD]
    have h3 := congrArg List.length h2
    rw [ptrim_length, ptrim_length, h1] at h3
    omega
  have hmd : plen f - (plen g - 1) = m := by omega
  have hgd : plen g - 1 = d := by omega
  have hP := exn_prod hfq hm hd (by omega) hpf
  have hld : plead g = g.getD d 0 := by unfold plead; rw [hgd]
  have hl0 : g.getD d 0 ≠ 0 := plen_lead g d (by omega)
  have hz : ∀ t, t < m → (exn (plead g) g d m (ptrim f) t).2.getD (m - 1 - t + d) 0 = q.getD (m - 1 - t) 0 * plead g := fun t ht => by
    obtain ⟨low, hlow⟩ : ∃ low, m - t = low + 1 := ⟨m - t - 1, by omega⟩
    have hlow2 : m - 1 - t = low := by omega
    rw [hlow2, (hP t (by omega)).1 _ (by omega), hlow, qcs, if_pos (by omega), show low + d - low = d by omega, hld]
    have : qcs q g (low + d) low = 0 := by
      suffices h : ∀ i, i ≤ low → qcs q g (low + d) i = 0 from h low (Nat.le_refl _)
      intro i
      induction i with
      | zero => intro _; rfl
      | succ i ih =>
        intro hi
        rw [qcs, ih (by omega), if_pos (by omega), getD_ge_plen g (low + d - i) (by omega)]
        simp
    rw [this, Int.zero_add]
  refine ⟨⟨fun t ht j => ?_, fun t ht => ?_, fun t ht k => ?_, ?_⟩, ?_⟩
  · rw [hmd] at ht ⊢
    rw [hgd, hz t ht, Int.mul_tdiv_cancel _ (by rw [hld]; exact hl0)]
    exact (fq _).mulok _
  · rw [hmd] at ht ⊢
    rw [hgd, hz t ht]
    exact Int.mul_tmod_left _ _
  · rw [hmd] at ht ⊢
    rw [hgd]
    by_cases hk : k < m + d
    · rw [(hP t ht).1 k hk]
      have h1 := qcs_bd (f := q) (g := g) (X := BB ^ FW) (Y := BB ^ FW) (fun j => Nat.le_of_lt (fq j)) (fun j => Nat.le_of_lt (fg j)) k (m - t)
      have h2 : (qcs q g k (m - t)).natAbs < BB ^ (FW + FW + 1) := by
        have e : BB ^ (FW + FW + 1) = BB * (BB ^ FW * BB ^ FW) := by rw [← Nat.pow_add, ← Nat.pow_succ']
        rw [e]
        have h4 : 0 < BB ^ FW * BB ^ FW := Nat.mul_pos (Nat.pow_pos BB_pos) (Nat.pow_pos BB_pos)
        refine Nat.lt_of_le_of_lt h1 (Nat.mul_lt_mul_of_pos_right ?_ h4)
        rw [BB_eq]; omega
      exact Nat.le_trans (dlen_le_of_lt h2) (by rw [FW_eq]; omega)
    · have := exn_length2 (plead g) g d m (ptrim f) t
      rw [ptrim_length, hpf] at this
      rw [getD_out _ (by omega)]
      exact Nat.le_trans (dlen_le_of_lt (k := 1) (by rw [Nat.pow_one, BB_eq]; decide)) (by omega)
  · rw [hmd, hgd]
    have : plen (exn (plead g) g d m (ptrim f) m).2 ≤ 0 := plen_le_of fun k _ => by
      by_cases hk : k < m + d
      · rw [(hP m (Nat.le_refl _)).1 k hk, Nat.sub_self]; rfl
      · have := exn_length2 (plead g) g d m (ptrim f) m
        rw [ptrim_length, hpf] at this
        exact getD_out _ (by omega)
    omega
  · unfold pexq
    rw [hmd, hgd]
    have hl2 := exn_length1 (plead g) g d m (ptrim f) m
    have hql : q.length = m := by rw [← tq, ptrim_length]; exact hm
    refine List.ext_getElem? fun j => ?_
    by_cases hj : j < m
    · have h1 := (hP m (Nat.le_refl _)).2 j hj
      rw [if_pos (by omega), List.getD_eq_getElem?_getD, List.getD_eq_getElem?_getD, List.getElem?_eq_getElem (by omega), List.getElem?_eq_getElem (by omega)] at h1
      rw [List.getElem?_eq_getElem (by omega), List.getElem?_eq_getElem (by omega)]
      exact congrArg some h1
    · rw [List.getElem?_eq_none (by omega), List.getElem?_eq_none (by omega)]
end
end Go.Proofs.YtccapbajbniknaaGreat

/- The exact division answers whether the divisor divides over the integers; its numbers are small. Plain: no program. -/
/- The walk of unidiv.Exact for every pair of polynomials, the divisor other than 0. -/
namespace Go.Proofs.YtccapbajbniknaaGreat
open Go.RowKit
end Go.Proofs.YtccapbajbniknaaGreat

/- The exact division answers whether the divisor divides over the integers; its numbers are small. Plain: no program. -/
namespace Go.Proofs.YtccapbajbniknaaGreat
section
variable {f g : List Int} {m d : Nat}
end
end Go.Proofs.YtccapbajbniknaaGreat
