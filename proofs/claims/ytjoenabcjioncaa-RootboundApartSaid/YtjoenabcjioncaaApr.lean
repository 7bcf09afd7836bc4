/- The roots of the law's lines. Plain: no program. -/
import Derived.Test.YtjoenabcjioncaaApt
import Derived.Test.YtjoenabcjioncaaLin
namespace Go.Proofs.Ytjoenabcjioncaa

theorem ld_ne (d : Int) : ld d ≠ 0 := by unfold ld; split <;> omega
theorem sg_self_mul (l : Int) : l * sg l = (l.natAbs : Int) := by
  rcases sg_cases l with ⟨h, e⟩ | ⟨h, e⟩ | ⟨h, e⟩ <;> rw [e] <;> omega
theorem rt_facts (p d : Int) : ∃ g : Nat, 0 < g ∧ rtn p d * (g : Int) = sg (ld d) * p ∧ rtd p d * g = (ld d).natAbs ∧ 0 < rtd p d ∧ Nat.gcd (rtn p d).natAbs (rtd p d) = 1 ∧ (rtn p d).natAbs ≤ p.natAbs ∧ rtd p d ≤ (ld d).natAbs := by
  have hl := ld_ne d
  obtain ⟨g, hg⟩ : ∃ g, g = Nat.gcd p.natAbs (ld d).natAbs := ⟨_, rfl⟩
  have hlp : 0 < (ld d).natAbs := Int.natAbs_pos.2 hl
  have hg0 : 0 < g := by rw [hg]; exact Nat.gcd_pos_of_pos_right _ hlp
  have d1 : g ∣ p.natAbs := by rw [hg]; exact Nat.gcd_dvd_left _ _
  have d2 : g ∣ (ld d).natAbs := by rw [hg]; exact Nat.gcd_dvd_right _ _
  have hs : (sg (ld d)).natAbs = 1 := by
    rcases sg_cases (ld d) with ⟨h, e⟩ | ⟨h, e⟩ | ⟨h, e⟩
    · rw [e]; rfl
    · exact absurd h hl
    · rw [e]; rfl
  have hsp : (sg (ld d) * p).natAbs = p.natAbs := by rw [Int.natAbs_mul, hs, Nat.one_mul]
  have hn : (rtn p d).natAbs = p.natAbs / g := by unfold rtn; rw [Int.natAbs_tdiv, hsp, ← hg, Int.natAbs_natCast]; rfl
  have hq : rtd p d = (ld d).natAbs / g := by unfold rtd; rw [← hg]
  refine ⟨g, hg0, ?_, by rw [hq]; exact Nat.div_mul_cancel d2, by rw [hq]; exact Nat.div_pos (Nat.le_of_dvd hlp d2) hg0, ?_, by rw [hn]; exact Nat.div_le_self _ _, by rw [hq]; exact Nat.div_le_self _ _⟩
  · unfold rtn
    rw [← hg]
    refine Int.tdiv_mul_cancel ?_
    rw [← Int.natAbs_dvd_natAbs, hsp, Int.natAbs_natCast]
    exact d1
  · rw [hn, hq, hg]
    exact Nat.gcd_div_gcd_div_gcd_of_pos_right hlp
theorem rt_line (p d : Int) : Rt (rtn p d) (rtd p d : Int) (lin p d) := by
  obtain ⟨g, hg, h1, h2, h3, _⟩ := rt_facts p d
  rw [Rt.of (by omega) (f := lin p d) (n := 1) (by have := plen_le (lin p d); unfold lin at this ⊢; simpa using this)]
  have e : hom (rtn p d) (rtd p d : Int) (lin p d) 1 = -p * (rtd p d : Int) + ld d * rtn p d := by simp [hom, evn, lin, Int.pow_succ]
  rw [e]
  have h4 : ((rtd p d : Int)) * (g : Int) = ((ld d).natAbs : Int) := by rw [← Int.natCast_mul, h2]
  have h5 := sg_self_mul (ld d)
  have hg0 : (g : Int) ≠ 0 := by omega
  have h6 : (g : Int) * (-p * (rtd p d : Int) + ld d * rtn p d) = -p * ((rtd p d : Int) * (g : Int)) + ld d * (rtn p d * (g : Int)) := by grind
  have h7 : (g : Int) * (-p * (rtd p d : Int) + ld d * rtn p d) = 0 := by
    rw [h6, h1, h4, ← h5]
    grind
  exact (Int.mul_eq_zero.1 h7).resolve_left hg0
theorem lin_bd {p d : Int} (hp : I8 p) (hd : I8 d) (j : Nat) : ((lin p d).getD j 0).natAbs ≤ 128 := by
  unfold I8 at hp hd
  match j with
  | 0 => show (-p).natAbs ≤ 128; omega
  | 1 => show (ld d).natAbs ≤ 128; unfold ld; split <;> omega
  | j + 2 => simp [lin]
theorem lin_plen2 (p d : Int) : plen (lin p d) ≤ 2 := by have := plen_le (lin p d); unfold lin at this ⊢; simpa using this
theorem ld_bd {d : Int} (hd : I8 d) : (ld d).natAbs ≤ 128 := by unfold I8 at hd; unfold ld; split <;> omega
/-- what the law asks, for the product of the lines and a polynomial -/
theorem apart_law {p d p' d' : Int} {g : List Int} (hp : I8 p) (hd : I8 d) (hp' : I8 p') (hd' : I8 d') (pg : plen g ≤ 5) (bg : ∀ j, (g.getD j 0).natAbs ≤ 40000) {F : List Int} (hF : ∀ k, F.getD k 0 = (polymul (polymul (lin p d) (lin p' d')) g).getD k 0) (F0 : plen F ≠ 0) (hne : rtn p d * (rtd p' d' : Int) ≠ rtn p' d' * (rtd p d : Int)) {s : Nat} (hs : SepV F s) : rtd p d * rtd p' d' < 2 ^ s := by
  obtain ⟨c1, c2, c3, c4⟩ := apart_few (lin_plen2 p d) (lin_plen2 p' d') pg (lin_bd hp hd) (lin_bd hp' hd') bg
  have hFl : plen F = plen (polymul (polymul (lin p d) (lin p' d')) g) := by have := congrArg List.length (ptrim_ext hF); rw [ptrim_length, ptrim_length] at this; exact this
  have hev : ∀ x, ev F x = ev (polymul (lin p d) (lin p' d')) x * ev g x := fun x => by rw [ev_congr hF x, ev_mul]
  obtain ⟨_, _, _, _, q0, co, _⟩ := rt_facts p d
  obtain ⟨_, _, _, _, q0', co', _⟩ := rt_facts p' d'
  refine apart_key ⟨by omega, fun j => by rw [hF]; exact c4 j⟩ F0 q0 q0' co co' hne ?_ ?_ hs
  · exact (Rt.mul (by omega) hev).2 (.inl ((Rt.mul (by omega) (fun x => ev_mul _ _ x)).2 (.inl (rt_line p d))))
  · exact (Rt.mul (by omega) hev).2 (.inl ((Rt.mul (by omega) (fun x => ev_mul _ _ x)).2 (.inr (rt_line p' d'))))
theorem redq_facts (y : Int) {t : Nat} (ht : 0 < t) : ∃ g : Nat, 0 < g ∧ y.tdiv (Nat.gcd y.natAbs t) * (g : Int) = y ∧ ((t / Nat.gcd y.natAbs t : Nat) : Int) * (g : Int) = (t : Int) ∧ (y.tdiv (Nat.gcd y.natAbs t)).natAbs ≤ y.natAbs ∧ 0 < t / Nat.gcd y.natAbs t ∧ t / Nat.gcd y.natAbs t ≤ t := by
  have hg : 0 < Nat.gcd y.natAbs t := Nat.gcd_pos_of_pos_right _ ht
  refine ⟨_, hg, Int.tdiv_mul_cancel (by rw [← Int.natAbs_dvd_natAbs, Int.natAbs_natCast]; exact Nat.gcd_dvd_left _ _), ?_, ?_, ?_, Nat.div_le_self _ _⟩
  · rw [← Int.natCast_mul, Nat.div_mul_cancel (Nat.gcd_dvd_right _ _)]
  · rw [Int.natAbs_tdiv]; exact Nat.div_le_self _ _
  · exact Nat.div_pos (Nat.le_of_dvd ht (Nat.gcd_dvd_right _ _)) hg
theorem pow_le_mul {b a c n : Nat} (hb : 0 < b) (h : n ≤ a * c) : b ^ n ≤ (b ^ a) ^ c := by rw [← Nat.pow_mul]; exact Nat.pow_le_pow_right hb h
theorem fit_two {s : Nat} (h : s ≤ 1000) : Fit ((2 ^ s : Nat) : Int) := by
  unfold Fit
  rw [Int.natAbs_natCast]
  refine Nat.lt_of_le_of_lt (pow_le_mul (a := 100) (c := 10) (by decide) (by omega)) (by rw [BB_eq]; decide +kernel)
/-- the distance in lowest terms -/
structure DistF (S : Int) (Q : Nat) (zs : Int) (qs : Nat) (zd : Int) (qd : Nat) : Prop where
  q0 : 0 < qs
  d0 : 0 < qd
  zb : zs.natAbs ≤ S.natAbs
  qb : qs ≤ Q
  eq : zd * (Q : Int) = (S.natAbs : Int) * (qd : Int)
  db : zd.natAbs ≤ S.natAbs ∧ qd ≤ Q
  ez : S = 0 → zd = 0
  pz : S ≠ 0 → 0 < zd
theorem dist_facts (S : Int) {Q : Nat} (hQ : 0 < Q) : DistF S Q (S.tdiv (Nat.gcd S.natAbs Q)) (Q / Nat.gcd S.natAbs Q) (((S.tdiv (Nat.gcd S.natAbs Q)).natAbs : Int).tdiv (Nat.gcd (S.tdiv (Nat.gcd S.natAbs Q)).natAbs (Q / Nat.gcd S.natAbs Q))) (Q / Nat.gcd S.natAbs Q / Nat.gcd (S.tdiv (Nat.gcd S.natAbs Q)).natAbs (Q / Nat.gcd S.natAbs Q)) := by
  obtain ⟨g, hg, a1, a2, a3, a4, a5⟩ := redq_facts S hQ
  obtain ⟨zs, hzs⟩ : ∃ zs, zs = S.tdiv (Nat.gcd S.natAbs Q) := ⟨_, rfl⟩
  obtain ⟨qs, hqs⟩ : ∃ qs, qs = Q / Nat.gcd S.natAbs Q := ⟨_, rfl⟩
  rw [← hzs] at a1 a3 ⊢
  rw [← hqs] at a2 a4 a5 ⊢
  obtain ⟨g2, hg2, b1, b2, b3, b4, b5⟩ := redq_facts (zs.natAbs : Int) a4
  rw [Int.natAbs_natCast] at b1 b2 b3 b4 b5
  obtain ⟨zd, hzd⟩ : ∃ zd, zd = (zs.natAbs : Int).tdiv (Nat.gcd zs.natAbs qs) := ⟨_, rfl⟩
  obtain ⟨qd, hqd⟩ : ∃ qd, qd = qs / Nat.gcd zs.natAbs qs := ⟨_, rfl⟩
  rw [← hzd] at b1 b3 ⊢
  rw [← hqd] at b2 b4 b5 ⊢
  have c1 : (S.natAbs : Int) = (zs.natAbs : Int) * (g : Int) := by rw [← a1, Int.natAbs_mul, Int.natAbs_natCast, Int.natCast_mul]
  have hzn : ∀ x : Int, x * (g2 : Int) = 0 → x = 0 := fun x h => (Int.mul_eq_zero.1 h).resolve_right (by omega)
  refine ⟨a4, b4, a3, a5, ?_, ⟨by omega, by omega⟩, fun h => ?_, fun h => ?_⟩
  · rw [c1, ← a2, ← b1, ← b2]
    grind
  · have : zs = 0 := by
      rw [h] at a1
      exact (Int.mul_eq_zero.1 a1).resolve_right (by omega)
    rw [this] at b1
    exact hzn zd (by simpa using b1)
  · have h1 : zs ≠ 0 := fun e => h (by rw [← a1, e, Int.zero_mul])
    refine Classical.byContradiction fun hn => ?_
    have h2 : zd * (g2 : Int) ≤ 0 := Int.mul_nonpos_of_nonpos_of_nonneg (by omega) (by omega)
    have h3 : 0 < (zs.natAbs : Int) := by have := Int.natAbs_pos.2 h1; omega
    omega
end Go.Proofs.Ytjoenabcjioncaa
