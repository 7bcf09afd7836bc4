/- The program's greatest common divisor is the greatest common divisor; it is unique. Plain: no program. -/
import Derived.Test.YtjoenabcjioncaaGti
import Derived.Test.YtjoenabcjioncaaSub
import Derived.Test.YtjoenabcjioncaaAwl
namespace Go.Proofs.Ytjoenabcjioncaa

theorem sg_mul_self {z : Int} (h : z ≠ 0) : sg z * sg z = 1 := by
  rcases sg_cases z with ⟨h1, e⟩ | ⟨h1, e⟩ | ⟨h1, e⟩ <;> rw [e] <;> first | rfl | omega
theorem gp_get {f : List Int} (h : plen f ≠ 0) (k : Nat) : f.getD k 0 = sg (plead f) * (pcont f : Int) * (pprim f).getD k 0 := by
  have h1 : (pprim f).getD k 0 = (f.getD k 0).tdiv (sg (plead f) * (pcont f : Int)) := by
    unfold pprim
    rw [if_neg h, map_tdiv_getD, ptrim_getD]
  rw [h1]
  refine (Int.mul_tdiv_cancel' ?_).symm
  have h2 := pcont_get f k
  have h0 : plead f ≠ 0 := fun e => h (plead_zero.1 e)
  have h3 : sg (plead f) * (pcont f : Int) ∣ (pcont f : Int) := ⟨sg (plead f), by rw [Int.mul_right_comm, sg_mul_self h0, Int.one_mul]⟩
  refine Int.dvd_trans h3 ?_
  rw [← Int.natAbs_dvd_natAbs, Int.natAbs_natCast]
  exact h2
theorem gp_ne {f : List Int} (h : plen f ≠ 0) : sg (plead f) * (pcont f : Int) ≠ 0 := by
  have h0 : plead f ≠ 0 := fun e => h (plead_zero.1 e)
  have h1 := pcont_ne h
  refine Int.mul_ne_zero (fun e => ?_) (by omega)
  have := sg_mul_self h0
  rw [e] at this
  simp at this
theorem gp_cont {f : List Int} (h : plen f ≠ 0) : pcont (pprim f) = 1 := by
  have h0 : plead f ≠ 0 := fun e => h (plead_zero.1 e)
  have h2 := pcont_psc (sg (plead f) * (pcont f : Int)) (pprim f)
  have h3 : pcont (psc (sg (plead f) * (pcont f : Int)) (pprim f)) = pcont f := pcont_ext fun k => by rw [psc_get, ← gp_get h]
  rw [h3, Int.natAbs_mul, Int.natAbs_natCast] at h2
  have h4 : (sg (plead f)).natAbs = 1 := by rcases sg_cases (plead f) with ⟨h1, e⟩ | ⟨h1, e⟩ | ⟨h1, e⟩ <;> rw [e] <;> first | rfl | omega
  rw [h4, Nat.one_mul] at h2
  have h5 := pcont_ne h
  exact Nat.eq_of_mul_eq_mul_left (Nat.pos_of_ne_zero h5) (by rw [Nat.mul_one]; exact h2.symm)
theorem gp_plen (f : List Int) : plen (pprim f) = plen f := by
  by_cases h : plen f = 0
  · unfold pprim; rw [if_pos h, h]; rfl
  · have h1 : plen (pprim f) ≤ plen f := plen_le_of fun k hk => by
      have := gp_get h k
      rw [getD_ge_plen f k hk] at this
      exact (Int.mul_eq_zero.1 this.symm).resolve_left (gp_ne h)
    have h2 : plen f ≤ plen (pprim f) := plen_le_of fun k hk => by rw [gp_get h k, getD_ge_plen (pprim f) k hk, Int.mul_zero]
    omega
theorem gp_lead {f : List Int} (h : plen f ≠ 0) : 0 < plead (pprim f) := by
  have h0 : plead f ≠ 0 := fun e => h (plead_zero.1 e)
  have h1 : plead f = sg (plead f) * (pcont f : Int) * plead (pprim f) := by
    have := gp_get h (plen f - 1)
    unfold plead at *
    rw [gp_plen]
    exact this
  have h2 := pcont_ne h
  have h3 : (0 : Int) < (pcont f : Int) := by omega
  refine Classical.byContradiction fun hn => ?_
  rcases sg_cases (plead f) with ⟨h4, e⟩ | ⟨h4, e⟩ | ⟨h4, e⟩
  all_goals (rw [e] at h1; have h5 : (pcont f : Int) * plead (pprim f) ≤ 0 := Int.mul_nonpos_of_nonneg_of_nonpos (by omega) (by omega))
  all_goals (try rw [Int.mul_assoc] at h1)
  all_goals omega
theorem gp_trim (f : List Int) : ptrim (pprim f) = pprim f := by
  have h : (pprim f).length = plen f := by
    unfold pprim
    split
    · rename_i h; rw [h]; rfl
    · rw [List.length_map, ptrim_length]
  unfold ptrim
  rw [gp_plen, ← h, List.take_length]

theorem dvq_scale {p q : List Int} {e e' : Int} (he : e' ≠ 0) (h : ∀ k, e * p.getD k 0 = e' * q.getD k 0) : Dvq p q :=
  ⟨e', [e], he, fun x => by rw [ev_const, ← ev_psc, ← ev_psc]; exact (ev_congr (fun k => by rw [psc_get, psc_get, h k]) x).symm⟩
theorem Dvq.zero (f : List Int) {g : List Int} (h : ∀ k, g.getD k 0 = 0) : Dvq f g := ⟨1, [], by decide, fun x => by rw [ev_nil, ev_congr (q := []) (fun k => by rw [h]; simp) x, ev_nil]; simp⟩
theorem dvq_prim_l {f : List Int} (h : plen f ≠ 0) : Dvq (pprim f) f := dvq_scale (e := sg (plead f) * (pcont f : Int)) (e' := 1) (by decide) (fun k => by rw [← gp_get h, Int.one_mul])
theorem dvq_prim_r {f : List Int} (h : plen f ≠ 0) : Dvq f (pprim f) := dvq_scale (e := 1) (e' := sg (plead f) * (pcont f : Int)) (gp_ne h) (fun k => by rw [← gp_get h, Int.one_mul])
theorem Comb.of_dvq {f g h h' : List Int} (k : Comb f g h) (d : ∃ c e : Int, c ≠ 0 ∧ ∀ x, c * ev h' x = e * ev h x) : Comb f g h' := by
  obtain ⟨c, u, v, hc, e⟩ := k
  obtain ⟨c', e', hc', e2⟩ := d
  refine ⟨c * c', psc e' u, psc e' v, Int.mul_ne_zero hc hc', fun x => ?_⟩
  rw [ev_psc, ev_psc, Int.mul_assoc, e2]
  have h1 : c * (e' * ev h x) = e' * (c * ev h x) := by ac_rfl
  rw [h1, e, Int.mul_add]
  congr 1 <;> ac_rfl

/-- D is the greatest common divisor of f and g -/
structure IsGcd (f g D : List Int) : Prop where
  trim : ptrim D = D
  lead : 0 < plead D
  cont : pcont D = Nat.gcd (pcont f) (pcont g)
  l : Dvq D f
  r : Dvq D g
  c : Comb f g D
/-- equal contents, leading coefficients with equal signs, each divides the other: equal -/
theorem dvq_eq {p q : List Int} (hp : 0 < plead p) (hq : 0 < plead q) (hc : pcont p = pcont q) (h : Dvq p q) (h' : Dvq q p) (k : Nat) : p.getD k 0 = q.getD k 0 := by
  have p1 : 1 ≤ plen p := Classical.byContradiction fun hn => by have := plead_zero.2 (show plen p = 0 by omega); omega
  have q1 : 1 ≤ plen q := Classical.byContradiction fun hn => by have := plead_zero.2 (show plen q = 0 by omega); omega
  have key : ∀ {p q : List Int}, 1 ≤ plen p → 1 ≤ plen q → ∀ {c : Int} {u : List Int}, c ≠ 0 → (∀ x, c * ev q x = ev u x * ev p x) → plen q = plen u + plen p - 1 ∧ 1 ≤ plen u ∧ ∀ k, c * q.getD k 0 = (polymul u p).getD k 0 := by
    intro p q p1 q1 c u hc e
    have hk : ∀ k, (psc c q).getD k 0 = (polymul u p).getD k 0 := ev_inj fun x => by rw [ev_psc, ev_mul, e]
    have hl : plen (psc c q) = plen q := by
      have a1 : plen (psc c q) ≤ plen q := plen_le_of fun k hk => by rw [psc_get, getD_ge_plen q k hk, Int.mul_zero]
      have a2 : plen q ≤ plen (psc c q) := plen_le_of fun k hk => by
        have := getD_ge_plen (psc c q) k hk
        rw [psc_get] at this
        exact (Int.mul_eq_zero.1 this).resolve_left hc
      omega
    have ht : plen (psc c q) = plen (polymul u p) := by have := congrArg List.length (ptrim_ext hk); rw [ptrim_length, ptrim_length] at this; exact this
    have u1 : 1 ≤ plen u := Classical.byContradiction fun hn => by
      have hz : ∀ k, (polymul u p).getD k 0 = 0 := fun k => by
        have h1 := ev_inj (p := polymul u p) (q := []) (fun x => by rw [ev_mul, ev_congr (p := u) (q := []) (fun k => by rw [getD_ge_plen u k (by omega)]; simp) x, ev_nil]; simp) k
        rw [h1]; simp
      have : plen (polymul u p) ≤ 0 := plen_le_of fun k _ => hz k
      omega
    have hm := (plen_mul u1 p1).1
    exact ⟨by omega, u1, fun k => by rw [← psc_get]; exact hk k⟩
  obtain ⟨c, u, hc0, e⟩ := h
  obtain ⟨c', u', hc0', e'⟩ := h'
  obtain ⟨a1, a2, a3⟩ := key p1 q1 hc0 e
  obtain ⟨b1, b2, _⟩ := key q1 p1 hc0' e'
  have hu : plen u = 1 := by omega
  obtain ⟨a, ha⟩ : ∃ a, a = u.getD 0 0 := ⟨_, rfl⟩
  have hg : ∀ k, c * q.getD k 0 = a * p.getD k 0 := fun k => by
    have h1 : ∀ x, ev u x = a := fun x => by
      rw [ev_congr (q := [a]) (fun k => ?_) x, ev_const]
      cases k with
      | zero => simp [ha]
      | succ k => rw [getD_ge_plen u (k + 1) (by omega)]; simp
    have h2 := ev_inj (p := psc c q) (q := psc a p) (fun x => by rw [ev_psc, ev_psc, e, h1]) k
    rw [psc_get, psc_get] at h2
    exact h2
  have hcc : c.natAbs * pcont q = a.natAbs * pcont p := by
    rw [← pcont_psc, ← pcont_psc]
    exact pcont_ext fun k => by rw [psc_get, psc_get, hg]
  have hcp : pcont p ≠ 0 := pcont_ne (by omega)
  rw [hc] at hcc hcp
  have hab : c.natAbs = a.natAbs := Nat.eq_of_mul_eq_mul_right (Nat.pos_of_ne_zero hcp) hcc
  have hlq : plen q = plen p := by omega
  have hld := hg (plen p - 1)
  have e1 : q.getD (plen p - 1) 0 = plead q := by unfold plead; rw [hlq]
  have e2 : p.getD (plen p - 1) 0 = plead p := rfl
  rw [e1, e2] at hld
  have hca : c = a := by
    rcases Int.natAbs_eq_natAbs_iff.1 hab with h1 | h1
    · exact h1
    · exfalso
      rw [h1] at hld
      rcases Int.lt_or_gt_of_ne (show a ≠ 0 by omega) with h2 | h2
      · have h3 : a * plead p < 0 := Int.mul_neg_of_neg_of_pos h2 hp
        have h4 : 0 < -a * plead q := Int.mul_pos (by omega) hq
        omega
      · have h3 : 0 < a * plead p := Int.mul_pos h2 hp
        have h4 : -a * plead q < 0 := Int.mul_neg_of_neg_of_pos (by omega) hq
        omega
  have := hg k
  rw [hca] at this
  exact (Int.eq_of_mul_eq_mul_left (by omega) this).symm
theorem IsGcd.unique {f g D D' : List Int} (h : IsGcd f g D) (h' : IsGcd f g D') : D = D' := by
  have h1 := dvq_eq h.lead h'.lead (by rw [h.cont, h'.cont]) (Dvq.comb h.l h.r h'.c) (Dvq.comb h'.l h'.r h.c)
  rw [← h.trim, ← h'.trim]
  exact ptrim_ext h1
end Go.Proofs.Ytjoenabcjioncaa
