/- Separation's value; two different rational roots are farther apart. Plain: no program. -/
import Derived.Test.YtjoenabcjioncaaPpt
import Derived.Test.YtjoenabcjioncaaBits
namespace Go.Proofs.Ytjoenabcjioncaa

/-- the number whose logarithm Separation takes -/
def sepx (Q : List Int) : Nat := (plen Q - 1) ^ (plen Q - 1 + 2) * (nst Q Q.length).natAbs ^ (plen Q - 1 - 1)
/-- the value of Separation -/
def SepV (F : List Int) (s : Nat) : Prop := (plen (ppart F) < 3 ∧ s = 0) ∨ (3 ≤ plen (ppart F) ∧ ∃ k, LG (sepx (ppart F)) k ∧ s = (k + 1) / 2)

theorem nst_bd {p : List Int} {X : Nat} (h : ∀ j, (p.getD j 0).natAbs ≤ X) : ∀ k, (nst p k).natAbs ≤ k * (X * X) ∧ 0 ≤ nst p k
  | 0 => by simp [nst]
  | k + 1 => by
    obtain ⟨h1, h2⟩ := nst_bd h k
    have h3 : (p.getD k 0 * p.getD k 0).natAbs ≤ X * X := by rw [Int.natAbs_mul]; exact Nat.mul_le_mul (h k) (h k)
    have h4 : 0 ≤ p.getD k 0 * p.getD k 0 := by
      rcases Int.le_total 0 (p.getD k 0) with h | h
      · exact Int.mul_nonneg h h
      · exact Int.mul_nonneg_of_nonpos_of_nonpos h h
    rw [nst, Nat.succ_mul]
    omega
theorem nst_ge {p : List Int} : ∀ k j, j < k → (p.getD j 0).natAbs * (p.getD j 0).natAbs ≤ (nst p k).natAbs
  | k + 1, j, hj => by
    have h4 : 0 ≤ p.getD k 0 * p.getD k 0 := by
      rcases Int.le_total 0 (p.getD k 0) with h | h
      · exact Int.mul_nonneg h h
      · exact Int.mul_nonneg_of_nonpos_of_nonpos h h
    have h2 : 0 ≤ nst p k := by
      clear hj h4
      induction k with
      | zero => exact Int.le_refl _
      | succ k ih =>
        have h4 : 0 ≤ p.getD k 0 * p.getD k 0 := by
          rcases Int.le_total 0 (p.getD k 0) with h | h
          · exact Int.mul_nonneg h h
          · exact Int.mul_nonneg_of_nonpos_of_nonpos h h
        rw [nst]; omega
    rw [nst]
    by_cases h : j = k
    · subst h
      rw [← Int.natAbs_mul]; omega
    · have := nst_ge (p := p) k j (by omega)
      omega

theorem apart_key {F : List Int} (hF : Few8 F) (F0 : plen F ≠ 0) {z1 z2 : Int} {q1 q2 : Nat} (h1 : 0 < q1) (h2 : 0 < q2) (g1 : Nat.gcd z1.natAbs q1 = 1) (g2 : Nat.gcd z2.natAbs q2 = 1) (hne : z1 * (q2 : Int) ≠ z2 * (q1 : Int)) (r1 : Rt z1 (q1 : Int) F) (r2 : Rt z2 (q2 : Int) F) {s : Nat} (hs : SepV F s) : q1 * q2 < 2 ^ s := by
  have PF := part_f hF F0
  obtain ⟨t1, t2⟩ := two_roots (Q := ppart F) (z1 := z1) (q1 := (q1 : Int)) (z2 := z2) (q2 := (q2 : Int)) (by omega) (by omega) (by rw [Int.natAbs_natCast]; exact g1) (by rw [Int.natAbs_natCast]; exact g2) hne PF.q0 (PF.root z1 q1 (by omega) r1) (PF.root z2 q2 (by omega) r2)
  rcases hs with ⟨h, _⟩ | ⟨_, k, hk, hsk⟩
  · omega
  obtain ⟨Q, hQ⟩ : ∃ Q, Q = ppart F := ⟨_, rfl⟩
  rw [← hQ] at t1 t2 hk
  have tQ := PF.t
  rw [← hQ] at tQ
  obtain ⟨n, hn⟩ : ∃ n, plen Q = n + 1 := ⟨plen Q - 1, by omega⟩
  have hlen : Q.length = n + 1 := by rw [← tQ, ptrim_length]; exact hn
  have hl : plead Q = Q.getD n 0 := by unfold plead; rw [hn]; rfl
  have hl0 : Q.getD n 0 ≠ 0 := plen_lead Q n hn
  have hd : q1 * q2 ∣ (Q.getD n 0).natAbs := by
    have := Int.natAbs_dvd_natAbs.2 t1
    rw [hl, Int.natAbs_mul, Int.natAbs_natCast, Int.natAbs_natCast] at this
    exact this
  have hle : q1 * q2 ≤ (Q.getD n 0).natAbs := Nat.le_of_dvd (Int.natAbs_pos.2 hl0) hd
  have hN := nst_ge (p := Q) (n + 1) n (by omega)
  obtain ⟨N, hNe⟩ : ∃ N, N = (nst Q (n + 1)).natAbs := ⟨_, rfl⟩
  rw [← hNe] at hN
  have hsq : (q1 * q2) * (q1 * q2) ≤ N := Nat.le_trans (Nat.mul_le_mul hle hle) hN
  have hX : 16 * N ≤ sepx Q := by
    unfold sepx
    rw [hn, hlen, ← hNe, Nat.add_sub_cancel]
    have a1 : 16 ≤ n ^ (n + 2) := by
      calc 16 = 2 ^ 4 := rfl
        _ ≤ n ^ 4 := Nat.pow_le_pow_left (by omega) 4
        _ ≤ n ^ (n + 2) := Nat.pow_le_pow_right (by omega) (by omega)
    have hN1 : 1 ≤ N := by
      have : 0 < (q1 * q2) * (q1 * q2) := Nat.mul_pos (Nat.mul_pos h1 h2) (Nat.mul_pos h1 h2)
      omega
    have a2 : N ≤ N ^ (n - 1) := by
      calc N = N ^ 1 := (Nat.pow_one N).symm
        _ ≤ N ^ (n - 1) := Nat.pow_le_pow_right hN1 (by omega)
    exact Nat.mul_le_mul a1 a2
  have hle2 := hk.le
  have h2s : 2 ^ k ≤ 2 ^ s * 2 ^ s := by rw [← Nat.pow_add]; exact Nat.pow_le_pow_right (by omega) (by omega)
  obtain ⟨T, hT⟩ : ∃ T, T = 2 ^ s := ⟨_, rfl⟩
  obtain ⟨q, hq⟩ : ∃ q, q = q1 * q2 := ⟨_, rfl⟩
  rw [← hT] at h2s ⊢
  rw [← hq] at hsq ⊢
  have h3 : 16 * (q * q) ≤ T * T := by omega
  have hq1 : 0 < q := by rw [hq]; exact Nat.mul_pos h1 h2
  refine Classical.byContradiction fun hn => ?_
  have h4 : T * T ≤ q * q := Nat.mul_le_mul (by omega) (by omega)
  have h5 : 0 < q * q := Nat.mul_pos hq1 hq1
  omega

theorem pc_bd_len {f g : List Int} {X Y : Nat} (hf : ∀ j, (f.getD j 0).natAbs ≤ X) (hg : ∀ j, (g.getD j 0).natAbs ≤ Y) (k : Nat) : (pc f g k).natAbs ≤ plen f * (X * Y) := by
  rw [← qcs_pc f g k (plen f) (Nat.le_refl _)]
  exact qcs_bd hf hg k _
/-- two lines and a polynomial with five coefficients -/
theorem apart_few {l1 l2 g : List Int} (p1 : plen l1 ≤ 2) (p2 : plen l2 ≤ 2) (pg : plen g ≤ 5) (b1 : ∀ j, (l1.getD j 0).natAbs ≤ 128) (b2 : ∀ j, (l2.getD j 0).natAbs ≤ 128) (bg : ∀ j, (g.getD j 0).natAbs ≤ 40000) : (∀ j, ((polymul l1 l2).getD j 0).natAbs ≤ 32768) ∧ plen (polymul l1 l2) ≤ 3 ∧ plen (polymul (polymul l1 l2) g) ≤ 7 ∧ ∀ j, ((polymul (polymul l1 l2) g).getD j 0).natAbs ≤ 4294967296 := by
  have c1 : ∀ j, ((polymul l1 l2).getD j 0).natAbs ≤ 32768 := fun j => by
    rw [polymul_getD]
    exact Nat.le_trans (pc_bd_len b1 b2 j) (Nat.mul_le_mul_right _ p1)
  have c2 : plen (polymul l1 l2) ≤ 3 := plen_le_of fun k hk => by
    rw [polymul_getD]
    exact pc_above (a := 1) (b := 1) (fun i hi => getD_ge_plen l1 i (by omega)) (fun i hi => getD_ge_plen l2 i (by omega)) (by omega)
  refine ⟨c1, c2, plen_le_of fun k hk => ?_, fun j => ?_⟩
  · rw [polymul_getD]
    exact pc_above (a := 2) (b := 4) (fun i hi => getD_ge_plen _ i (by omega)) (fun i hi => getD_ge_plen g i (by omega)) (by omega)
  · rw [polymul_getD]
    refine Nat.le_trans (pc_bd_len c1 bg j) (Nat.le_trans (Nat.mul_le_mul_right _ c2) (by decide))
/-- the comparison of the distance with a power of 2 -/
theorem apart_cmp {S zd : Int} {Q qd T : Nat} (hz : zd * (Q : Int) = (S.natAbs : Int) * (qd : Int)) (hS : S ≠ 0) (hQ : 0 < Q) (hqd : 0 < qd) (hT : Q < T) : (qd : Int) < zd * (T : Int) := by
  have h1 : (qd : Int) ≤ zd * (Q : Int) := by
    rw [hz]
    have : 1 * (qd : Int) ≤ (S.natAbs : Int) * (qd : Int) := Int.mul_le_mul_of_nonneg_right (by omega) (by omega)
    omega
  have h2 : 0 < zd := by
    refine Classical.byContradiction fun hn => ?_
    have h3 : zd * (Q : Int) ≤ 0 := Int.mul_nonpos_of_nonpos_of_nonneg (by omega) (by omega)
    omega
  have h4 : zd * (Q : Int) < zd * (T : Int) := Int.mul_lt_mul_of_pos_left (by omega) h2
  omega
end Go.Proofs.Ytjoenabcjioncaa
