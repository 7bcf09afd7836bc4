/- The greatest common divisor, the least common multiple: the program's and the reference's. Plain: no program. -/
import Derived.Test.YtgblfpkfapmlnaaGreatFbd
import Derived.Test.YtgblfpkfapmlnaaGreatRga
import Derived.Test.YtgblfpkfapmlnaaGreatExh
import Derived.Test.YtgblfpkfapmlnaaGreatDvc
namespace Go.Proofs.YtgblfpkfapmlnaaGreat

/-- the greatest common divisor divides over the integers -/
theorem dvd_good {f D : List Int} (D0 : plen D ≠ 0) (hl : 0 < plead D) (h : Dvq D f) (hc : pcont D ∣ pcont f) : ExGood f D := by
  obtain ⟨c, q, hc0, e⟩ := (dvq_prim_l D0).trans h
  have hk : ∀ k, (psc c f).getD k 0 = (polymul q (pprim D)).getD k 0 := ev_inj fun x => by rw [ev_psc, ev_mul, e]
  have h2 : c.natAbs * pcont f = pcont q := by
    have h2 : pcont (psc c f) = pcont (polymul q (pprim D)) := pcont_ext fun k => by rw [hk]
    rwa [pcont_psc, pcont_mul, gp_cont D0, Nat.mul_one] at h2
  obtain ⟨m, hm⟩ := hc
  have hdv : ∀ k, c * (pcont D : Int) ∣ q.getD k 0 := fun k => Int.natAbs_dvd_natAbs.1 (by
    rw [Int.natAbs_mul, Int.natAbs_natCast]
    exact Nat.dvd_trans ⟨m, by rw [← h2, hm, Nat.mul_assoc]⟩ (pcont_get q k))
  refine (exgood_iff D0).2 ⟨q.map (·.tdiv (c * (pcont D : Int))), fun x => ?_⟩
  have hq : ∀ y, ev q y = c * (pcont D : Int) * ev (q.map (·.tdiv (c * (pcont D : Int)))) y := fun y => by
    rw [← ev_psc]
    exact ev_congr (fun k => by rw [psc_get, map_tdiv_getD]; exact (Int.mul_tdiv_cancel' (hdv k)).symm) y
  have hD : ∀ y, ev D y = (pcont D : Int) * ev (pprim D) y := fun y => by
    rw [← ev_psc]
    exact ev_congr (fun k => by rw [psc_get, gp_get D0 k, sg_pos hl, Int.one_mul]) y
  refine Int.eq_of_mul_eq_mul_left hc0 ?_
  rw [e x, hq, hD]
  ac_rfl
theorem gcd_good {f g D : List Int} (h : IsG f g D) (D0 : plen D ≠ 0) : ExGood f D := by
  rcases h with ⟨_, _, rfl⟩ | ⟨_, h⟩
  · exact absurd rfl D0
  · exact dvd_good D0 h.lead h.l (by rw [h.cont]; exact Nat.gcd_dvd_left _ _)
/-- a bound for the greatest common divisor -/
abbrev gdB : Nat := 2 ^ 130
theorem gdB_ok : fbb (2 * 6 + 1) ((6 + 1) * (18446744073709551616 * (2 * 6 + 1) ^ 6)) 6 ≤ gdB := by decide +kernel
theorem gres_bd {f g : List Int} (hf : Few7 f) (hg : Few7 g) (f0 : plen f ≠ 0) (j : Nat) : ((gres f g).getD j 0).natAbs ≤ gdB ∧ ((pexq f (gres f g)).getD j 0).natAbs ≤ gdB := by
  have hG := gres_is (few7_ga hf hg)
  have D0 : plen (gres f g) ≠ 0 := by
    rcases hG with ⟨h, _⟩ | ⟨_, h⟩
    · exact absurd h f0
    · exact h.ne
  have he := exgood_ev D0 (gcd_good hG D0)
  have h1 := hf.1
  exact ⟨Nat.le_trans (factor_bd (n := 6) (by omega) f0 hf.2 he j) gdB_ok, Nat.le_trans (factor_bd (n := 6) (g := gres f g) (by omega) f0 hf.2 (fun x => by rw [he x, Int.mul_comm]) j) gdB_ok⟩
theorem gres_sz {f g : List Int} (hf : Few7 f) (hg : Few7 g) (f0 : plen f ≠ 0) : ExSz 47 f (gres f g) := by
  have hG := gres_is (few7_ga hf hg)
  have D0 : plen (gres f g) ≠ 0 := by
    rcases hG with ⟨h, _⟩ | ⟨_, h⟩
    · exact absurd h f0
    · exact h.ne
  refine exsz_of hf.2 (fun j => (gres_bd hf hg f0 j).1) (Nat.lt_of_le_of_lt (Nat.mul_le_mul_left _ (Nat.pow_le_pow_right (by decide) (show plen f - (plen (gres f g) - 1) ≤ 7 by have := hf.1; omega))) (by rw [BB_eq]; decide +kernel))

/-- the least common multiple as the program computes it -/
def plcm (f g : List Int) : List Int := if plen f = 0 ∨ plen g = 0 then [] else ppos (polymul (ptrim (pexq f (gres f g))) (ptrim g))
/-- the product of both, with a positive leading coefficient, is the product of the least common multiple and the greatest common divisor -/
theorem lcm_mul {f g : List Int} (hf : Few7 f) (hg : Few7 g) (f0 : plen f ≠ 0) (g0 : plen g ≠ 0) : ptrim (polymul (ptrim (plcm f g)) (gres f g)) = ppos (polymul (ptrim f) (ptrim g)) ∧ plen (plcm f g) ≠ 0 := by
  have hG := gres_is (few7_ga hf hg)
  have hGc : IsGcd f g (gres f g) := by
    rcases hG with ⟨h, _⟩ | ⟨_, h⟩
    · exact absurd h f0
    · exact h
  have D0 := hGc.ne
  have he := exgood_ev D0 (gcd_good hG D0)
  obtain ⟨D, hD⟩ : ∃ D, D = gres f g := ⟨_, rfl⟩
  obtain ⟨p, hp⟩ : ∃ p, p = pexq f D := ⟨_, rfl⟩
  have hL : plcm f g = ppos (polymul (ptrim p) (ptrim g)) := by unfold plcm; rw [if_neg (by omega), ← hD, ← hp]
  rw [← hD, ← hp] at he
  rw [← hD] at D0 hGc ⊢
  have p0 : plen p ≠ 0 := fun e => f0 (by
    have : plen f ≤ 0 := plen_le_of fun k _ => (ev_inj (q := []) (fun x => by rw [he, ev_congr (p := p) (q := []) (fun j => by rw [getD_ge_plen p j (by omega)]; simp) x, ev_nil, Int.zero_mul]) k).trans (by simp)
    omega)
  obtain ⟨Q, hQ⟩ : ∃ Q, Q = polymul (ptrim p) (ptrim g) := ⟨_, rfl⟩
  rw [← hQ] at hL
  obtain ⟨P, hP⟩ : ∃ P, P = polymul (ptrim f) (ptrim g) := ⟨_, rfl⟩
  rw [← hP]
  have Q0 : plen Q ≠ 0 := by rw [hQ]; have := (plen_mul (f := ptrim p) (g := ptrim g) (by rw [plen_ptrim]; omega) (by rw [plen_ptrim]; omega)).1; rw [plen_ptrim, plen_ptrim] at this; omega
  have P0 : plen P ≠ 0 := by rw [hP]; have := (plen_mul (f := ptrim f) (g := ptrim g) (by rw [plen_ptrim]; omega) (by rw [plen_ptrim]; omega)).1; rw [plen_ptrim, plen_ptrim] at this; omega
  have eQ : ∀ x, ev Q x = ev p x * ev g x := fun x => by rw [hQ, ev_mul, ev_trim, ev_trim]
  have eP : ∀ x, ev P x = ev Q x * ev D x := fun x => by rw [hP, ev_mul, ev_trim, ev_trim, he, eQ]; ac_rfl
  have L0 : plen (ppos Q) ≠ 0 := by rw [ppos_plen]; exact Q0
  rw [hL]
  refine ⟨?_, L0⟩
  obtain ⟨R, hR⟩ : ∃ R, R = polymul (ptrim (ppos Q)) D := ⟨_, rfl⟩
  rw [← hR]
  have hRl : 0 < plead R := by
    have h1 := (plen_mul (f := ptrim (ppos Q)) (g := D) (by rw [plen_ptrim]; omega) (by omega)).2
    rw [hR, h1, ppos_trim]
    exact Int.mul_pos (ppos_lead Q0) hGc.lead
  have hR0 : plen R ≠ 0 := fun e => by have := plead_zero.2 e; omega
  have hsg : (∀ k, R.getD k 0 = P.getD k 0) ∨ (∀ k, R.getD k 0 = -P.getD k 0) := by
    rcases ppos_or Q with ⟨h1, _⟩ | ⟨h1, _⟩
    · exact .inl (ev_inj fun x => by rw [hR, ev_mul, ev_trim, ev_congr h1, eP])
    · right
      intro k
      have h2 : ∀ x, ev R x = ev (psc (-1) P) x := fun x => by
        rw [hR, ev_mul, ev_trim, ev_psc, eP, ev_congr (q := psc (-1) Q) (fun k => by rw [h1, psc_get]; omega), ev_psc, Int.mul_assoc]
      rw [ev_inj h2 k, psc_get]; omega
  rcases hsg with h1 | h1
  · have hpl : plead P = plead R := by
      have h2 := congrArg List.length (ptrim_ext h1)
      rw [ptrim_length, ptrim_length] at h2
      unfold plead
      rw [← h1, h2]
    unfold ppos
    rw [if_neg (by omega)]
    exact ptrim_ext h1
  · have hpl : plead P = -plead R := by
      have h2 : plen P = plen R := plen_scale (c := 1) (d := -1) (by decide) (by decide) (fun k => by rw [h1]; omega)
      have h3 := h1 (plen P - 1)
      unfold plead
      rw [h2] at h3 ⊢
      omega
    refine eq_of_trim (ptrim_ptrim _) (ppos_trim _) fun k => ?_
    rw [ptrim_getD]
    rcases ppos_or P with ⟨_, h2⟩ | ⟨h2, _⟩
    · omega
    · rw [h2, h1]

/-- a bound for all numbers in the reference's sequence -/
def gsB : Nat := (2 ^ 250) ^ 4
theorem gsB_exp : ∃ E, E ≤ 5000 ∧ gsB ≤ 2 ^ E := ⟨250 * 4, by decide, Nat.le_of_eq (Nat.pow_mul 2 250 4).symm⟩
theorem gsB_a : 18446744073709551616 ≤ gsB := by unfold gsB; decide +kernel
theorem gsB_b : gdB ≤ gsB := by unfold gsB; decide +kernel
theorem gsB_c : (18446744073709551616 * 32) ^ 14 ≤ gsB := by unfold gsB; decide +kernel
/-- what holds in the loop of the reference's Gcd -/
def GS (X x y : List Int) : Prop := (y = [] ∧ x = X) ∨ ∃ a b m n G N, GOK G m n 0 N ∧ (∀ k, (a.getD k 0).natAbs * (m + n) ≤ G) ∧ (∀ k, (b.getD k 0).natAbs * (m + n) ≤ G) ∧ RG a b m n G 0 N X x y ∧ G ^ (m + n + 2) ≤ gsB ∧ m ≤ 6 ∧ n ≤ 6
theorem GS.step {X x y : List Int} (h : GS X x y) (hy : y ≠ []) : GS X y (pprim (psr x y)) ∧ (pprim (psr x y)).length < y.length ∧ plen y = y.length ∧ Bd gsB x ∧ Bd gsB y ∧ x.length ≤ 7 ∧ y.length ≤ 7 := by
  rcases h with ⟨h, _⟩ | ⟨a, b, m, n, G, N, ok, hf, hg, hR, hG, hm, hn⟩
  · exact absurd h hy
  · obtain ⟨h1, h2, h3, h4, h5⟩ := hR.step ok (fun p _ h => by omega) hf hg hy
    exact ⟨.inr ⟨a, b, m, n, G, N, ok, hf, hg, h1, hG, hm, hn⟩, h2, h3, fun k => Nat.le_trans (hR.xb k) hG, fun k => Nat.le_trans (h4 k) hG, by have := hR.xl; omega, by omega⟩
/-- the state at the start, and the value -/
theorem GS.start {f g : List Int} (hf : Few7 f) (hg : Few7 g) : ∃ X, GS X (gpair f g).1 (gpair f g).2 ∧ zsc X ((Nat.gcd (pcont f) (pcont g) : Nat) : Int) = gres f g ∧ X.length ≤ 7 ∧ Bd gsB X := by
  have gl : ∀ p : List Int, (pprim p).length = plen p := gp_length
  have pb : ∀ {p : List Int}, Few7 p → Bd gsB (pprim p) := fun {p} hp j => Nat.le_trans (pprim_abs p j) (Nat.le_trans (hp.2 j) gsB_a)
  have zs : ∀ (p : List Int) (c : Int), zsc p c = ptrim (psc c p) := fun p c => eq_of_trim (zsc_trim _ _) (ptrim_ptrim _) fun k => by rw [zsc_get, ptrim_getD, psc_get, Int.mul_comm]
  have pz : ∀ {p : List Int}, plen p = 0 → pprim p = [] := fun h => by unfold pprim; rw [if_pos h]
  have ps : ∀ {p : List Int}, plen p ≠ 0 → ptrim (psc (pcont p : Int) (pprim p)) = ppos p := fun {p} h0 => by
    refine eq_of_trim (ptrim_ptrim _) (ppos_trim _) fun k => ?_
    rw [ptrim_getD, psc_get]
    have h1 := gp_get h0 k
    have hl : plead p ≠ 0 := plead_ne h0
    rcases ppos_or p with ⟨h2, h3⟩ | ⟨h2, h3⟩
    · rw [sg_pos (by omega), Int.one_mul] at h1
      rw [h2, h1]
    · rw [sg_neg h3, Int.neg_mul, Int.one_mul] at h1
      rw [h2, h1, Int.neg_mul, Int.neg_neg]
  by_cases f0 : plen f = 0
  · have hp : gpair f g = (if plen f < plen g then (pprim g, []) else ([], pprim g)) := by unfold gpair; rw [pz f0]
    by_cases g0 : plen g = 0
    · refine ⟨[], ?_, ?_, Nat.zero_le _, fun k => by rw [show ([] : List Int).getD k 0 = 0 from rfl]; exact Nat.zero_le _⟩
      · rw [hp, if_neg (by omega)]; exact .inl ⟨pz g0, rfl⟩
      · unfold gres
        rw [if_pos f0, ppos_nil g0]; rfl
    · refine ⟨pprim g, ?_, ?_, by rw [gl]; exact hg.1, pb hg⟩
      · rw [hp, if_pos (by omega)]; exact .inl ⟨rfl, rfl⟩
      · unfold gres
        rw [if_pos f0, pcont_zero f0, Nat.gcd_zero_left, zs, ps g0]
  · by_cases g0 : plen g = 0
    · refine ⟨pprim f, ?_, ?_, by rw [gl]; exact hf.1, pb hf⟩
      · unfold gpair
        rw [if_neg (by omega), pz g0]; exact .inl ⟨rfl, rfl⟩
      · unfold gres
        rw [if_neg f0, if_pos g0, pcont_zero g0, Nat.gcd_zero_right, zs, ps f0]
    · have hgc := few7_gc hf hg f0 g0
      obtain ⟨m, n, ha, hb, hmn, _, hme, hsum, sa, sb, _⟩ := hgc.pair
      have h1 := hf.1
      have h2 := hg.1
      have hcases : (gpair f g = (pprim g, pprim f)) ∨ (gpair f g = (pprim f, pprim g)) := by unfold gpair; split <;> simp
      have pp : ∀ {p : List Int}, plen p ≠ 0 → pprim (pprim p) = pprim p := fun {p} h => pprim_scale (c := sg (plead p) * (pcont p : Int)) (d := 1) (gp_ne h) (by decide) (fun k => by rw [Int.one_mul]; exact (gp_get h k).symm)
      have ta : pprim (gpair f g).1 = (gpair f g).1 := by rcases hcases with e | e <;> rw [e] <;> exact pp (by assumption)
      have tb : pprim (gpair f g).2 = (gpair f g).2 := by rcases hcases with e | e <;> rw [e] <;> exact pp (by assumption)
      obtain ⟨G, hG⟩ : ∃ G, G = 18446744073709551616 * 32 := ⟨_, rfl⟩
      have ok : GOK G m n 0 18 := gok18 hmn (by omega) (by omega) (by rw [hG, BB_eq]; decide +kernel)
      have am : ∀ k, ((gpair f g).1.getD k 0).natAbs * (m + n) ≤ G := fun k => by rw [hG]; exact Nat.mul_le_mul (sa k) (by omega)
      have bm : ∀ k, ((gpair f g).2.getD k 0).natAbs * (m + n) ≤ G := fun k => by rw [hG]; exact Nat.mul_le_mul (sb k) (by omega)
      have hst := RG.start (a := (gpair f g).1) (b := (gpair f g).2) (k := 20) (Nat.zero_le _) (fun p _ h => by omega) ha hb ta tb hmn ok (fun k => by have := sa k; omega) (fun k => by have := sb k; omega) am bm (by omega)
      obtain ⟨X, hX⟩ : ∃ X, X = pprim (gcl 20 (gpair f g).1 (gpair f g).2) := ⟨_, rfl⟩
      rw [← hX] at hst
      have hGb : G ^ (m + n + 2) ≤ gsB := by
        refine Nat.le_trans (Nat.pow_le_pow_right (by omega) (show m + n + 2 ≤ 14 by omega)) ?_
        rw [hG]; exact gsB_c
      have hv : zsc X ((Nat.gcd (pcont f) (pcont g) : Nat) : Int) = gres f g := by
        unfold gres
        rw [if_neg f0, if_neg g0, zs, hX]
        unfold gval pgcd
        rw [pconts_two]
      obtain ⟨c1, c2, _, _⟩ := gcl_spec (Nat.zero_le _) (fun p _ h => by omega) ha hb (by rw [← gl, ta]) (by rw [← gl, tb]) hmn ok (fun k => by have := sa k; omega) (fun k => by have := sb k; omega) am bm (k := 20) (by omega)
      have hval := hgc.all.1
      have D0 := hval.ne
      have hXp : pprim (gval f g) = X := by
        have hDg : ∀ k, (gval f g).getD k 0 = ((Nat.gcd (pcont f) (pcont g) : Nat) : Int) * X.getD k 0 := fun k => by
          have h3 : gval f g = gres f g := by unfold gres; rw [if_neg f0, if_neg g0]
          rw [h3, ← hv, zsc_get, Int.mul_comm]
        have hc0 : ((Nat.gcd (pcont f) (pcont g) : Nat) : Int) ≠ 0 := by
          have : Nat.gcd (pcont f) (pcont g) ≠ 0 := fun e => pcont_ne f0 (Nat.eq_zero_of_gcd_eq_zero_left e)
          omega
        rw [pprim_scale (c := 1) (d := ((Nat.gcd (pcont f) (pcont g) : Nat) : Int)) (by decide) hc0 (fun k => by rw [Int.one_mul]; exact hDg k), hX, pp (by omega)]
      refine ⟨X, .inr ⟨_, _, m, n, G, 18, ok, am, bm, hst, hGb, by omega, by omega⟩, hv, ?_, fun j => ?_⟩
      · rw [← hXp, gl]
        have := dvq_plen hval.l f0
        omega
      · rw [← hXp]
        refine Nat.le_trans (pprim_abs _ j) (Nat.le_trans ?_ gsB_b)
        have h3 : gval f g = gres f g := by unfold gres; rw [if_neg f0, if_neg g0]
        rw [h3]
        exact (gres_bd hf hg f0 j).1
end Go.Proofs.YtgblfpkfapmlnaaGreat
