/- The law DescartesMoves, plain: the signs in the spelling of the walk. -/
import Derived.Test.YtdihefmjfnlpcaaGreatStf
import Derived.Test.YtdihefmjfnlpcaaGreatMob
import Derived.Test.YtdihefmjfnlpcaaGreatSte
import Derived.Test.YtdihefmjfnlpcaaGreatGti
import Derived.Test.YtdihefmjfnlpcaaGreatSta
/- The fraction of a pair of int8s: its bounds and its order. Plain. -/
namespace Go.Proofs.YtdihefmjfnlpcaaGreat

theorem rt_bd {p d : Int} (hp : I8 p) (hd : I8 d) : ∃ g : Nat, 0 < g ∧ rtz p d * (g : Int) = frn p d ∧ ((rtq p d : Nat) : Int) * (g : Int) = frd d ∧ (rtz p d).natAbs ≤ 128 ∧ 0 < rtq p d ∧ rtq p d ≤ 128 := by
  obtain ⟨b1, b2, b3⟩ := fr_bd hp hd
  have hg : 0 < Nat.gcd (frn p d).natAbs (frd d).natAbs := Nat.gcd_pos_of_pos_right _ (by omega)
  have e1 : rtz p d = (frn p d).tdiv (Nat.gcd (frn p d).natAbs (frd d).natAbs) := by
    unfold rtz
    rw [sg_pos (by omega), Int.one_mul]
  have hq : (frd d).natAbs / Nat.gcd (frn p d).natAbs (frd d).natAbs * Nat.gcd (frn p d).natAbs (frd d).natAbs = (frd d).natAbs := Nat.div_mul_cancel (Nat.gcd_dvd_right _ _)
  refine ⟨_, hg, ?_, ?_, ?_, ?_, ?_⟩
  · rw [e1]
    exact Int.tdiv_mul_cancel (by rw [← Int.natAbs_dvd_natAbs, Int.natAbs_natCast]; exact Nat.gcd_dvd_left _ _)
  · unfold rtq
    rw [← Int.natCast_mul, hq]
    omega
  · rw [e1, Int.natAbs_tdiv]
    exact Nat.le_trans (Nat.div_le_self _ _) b1
  · unfold rtq
    exact Nat.div_pos (Nat.le_of_dvd (by omega) (Nat.gcd_dvd_right _ _)) hg
  · unfold rtq
    exact Nat.le_trans (Nat.div_le_self _ _) (by omega)

theorem rt_less {p d p' d' : Int} (hp : I8 p) (hd : I8 d) (hp' : I8 p') (hd' : I8 d') (h : frn p d * frd d' < frn p' d' * frd d) : rtz p d * (rtq p' d' : Int) < rtz p' d' * (rtq p d : Int) := by
  obtain ⟨g, hg, a1, a2, _⟩ := rt_bd hp hd
  obtain ⟨g', hg', b1, b2, _⟩ := rt_bd hp' hd'
  rw [← a1, ← a2, ← b1, ← b2] at h
  have hgg : (0 : Int) < (g : Int) * (g' : Int) := Int.mul_pos (by omega) (by omega)
  refine Int.lt_of_mul_lt_mul_left (a := (g : Int) * (g' : Int)) ?_ (Int.le_of_lt hgg)
  calc (g : Int) * (g' : Int) * (rtz p d * (rtq p' d' : Int)) = rtz p d * (g : Int) * ((rtq p' d' : Int) * (g' : Int)) := by grind
    _ < rtz p' d' * (g' : Int) * ((rtq p d : Int) * (g : Int)) := h
    _ = (g : Int) * (g' : Int) * (rtz p' d' * (rtq p d : Int)) := by grind
end Go.Proofs.YtdihefmjfnlpcaaGreat

/- What Mobius computes, by values: content 1, degree, signs at the ends, constants. Plain, no program. -/
namespace Go.Proofs.YtdihefmjfnlpcaaGreat

/-- the value with denominators cleared, k coefficients below the top -/
def hv (f : List Int) (u v : Int) : Nat → Int
  | 0 => f.getD (f.length - 1) 0
  | k + 1 => hv f u v k * u + f.getD (f.length - 2 - k) 0 * v ^ (k + 1)

theorem hv_scale (f : List Int) (c u v : Int) : ∀ k, hv f (c * u) (c * v) k = c ^ k * hv f u v k
  | 0 => by simp [hv]
  | k + 1 => by
    rw [hv, hv, hv_scale f c u v k, Int.mul_pow, Int.pow_succ c k]
    grind

theorem sg_mul_pos {c : Int} (hc : 0 < c) (y : Int) : sg (c * y) = sg y := by
  rcases sg_cases y with ⟨h, e⟩ | ⟨h, e⟩ | ⟨h, e⟩
  · rw [e, sg_neg (Int.mul_neg_of_pos_of_neg hc h)]
  · rw [h, Int.mul_zero]
  · rw [e, sg_pos (Int.mul_pos hc h)]

/-- the sign depends on the fraction alone -/
theorem hv_sign (f : List Int) {z z' q q' : Int} (h : z * q' = z' * q) (hq : 0 < q) (hq' : 0 < q') (k : Nat) : sg (hv f z q k) = sg (hv f z' q' k) := by
  have h1 := hv_scale f q' z q k
  have h2 := hv_scale f q z' q' k
  rw [show q' * z = q * z' by rw [Int.mul_comm q' z, h, Int.mul_comm], Int.mul_comm q' q, h2] at h1
  have h3 : sg (q ^ k * hv f z' q' k) = sg (hv f z' q' k) := sg_mul_pos (Int.pow_pos hq) _
  have h4 : sg (q' ^ k * hv f z q k) = sg (hv f z q k) := sg_mul_pos (Int.pow_pos hq') _
  rw [← h4, ← h1, h3]

theorem hv_psc (c : Int) (f : List Int) (u v : Int) : ∀ k, hv (psc c f) u v k = c * hv f u v k
  | 0 => by
    have hl : (psc c f).length = f.length := by unfold psc; rw [List.length_map]
    rw [hv, hv, hl, psc_get]
  | k + 1 => by
    have hl : (psc c f).length = f.length := by unfold psc; rw [List.length_map]
    rw [hv, hv, hl, psc_get, hv_psc c f u v k]
    grind

theorem ev_two (a b x : Int) : ev [a, b] x = a + b * x := by simp [ev, evn, Int.pow_succ]

theorem tr_ev (f : List Int) (P Q D x : Int) : ∀ k, ev (trs f P Q D k).1 x = hv f (P + Q * x) (D + D * x) k ∧ ev (trs f P Q D k).2.1 x = (D + D * x) ^ k
  | 0 => ⟨ev_const _ _, by rw [Int.pow_zero]; exact ev_const 1 x⟩
  | k + 1 => by
    obtain ⟨h1, h2⟩ := tr_ev f P Q D x k
    have h3 : ev (polymul (ptrim (trs f P Q D k).2.1) (ptrim [D, D])) x = (D + D * x) ^ (k + 1) := by
      rw [ev_mul, ev_trim, ev_trim, ev_two, h2, Int.pow_succ]
    refine ⟨?_, h3⟩
    show ev (ptrim (padd (polymul (ptrim (trs f P Q D k).1) (ptrim [P, Q])) (ptrim (psc (f.getD (f.length - 2 - k) 0) (polymul (ptrim (trs f P Q D k).2.1) (ptrim [D, D])))))) x = _
    rw [ev_trim, ev_padd, ev_mul, ev_trim, ev_trim, ev_two, ev_trim, ev_psc, h3, h1, hv]

theorem scs_hv (p : List Int) (z q : Int) : ∀ k, scs p z q p.length (k + 1) = (hv p z q k, q ^ k)
  | 0 => by simp [scs, hv]
  | k + 1 => by
    rw [scs, scs_hv p z q k]
    simp only [Nat.add_eq_zero_iff, Nat.one_ne_zero, and_false, if_false, hv, Int.pow_succ]
    rw [show p.length - 1 - (k + 1) = p.length - 2 - k by omega]

theorem sval_hv {p : List Int} (h : 1 ≤ plen p) (z q : Int) : sval p z q = hv (ptrim p) z q (plen p - 1) := by
  unfold sval
  have h1 := scs_hv (ptrim p) z q (plen p - 1)
  rw [ptrim_length, show plen p - 1 + 1 = plen p by omega] at h1
  rw [h1]

theorem evn_front (F : Nat → Int) (x : Int) : ∀ n, evn F x (n + 1) = F 0 + x * evn (fun i => F (i + 1)) x n
  | 0 => by simp [evn]
  | n + 1 => by
    rw [evn, evn_front F x n, evn, Int.pow_succ]
    grind

theorem hv_horner (p : List Int) (z : Int) : ∀ k, k + 1 ≤ p.length → hv p z 1 k = evn (fun j => p.getD (p.length - 1 - k + j) 0) z (k + 1)
  | 0, h => by simp [hv, evn]
  | k + 1, h => by
    rw [evn_front, hv, hv_horner p z k (by omega), Int.one_pow]
    have e : (fun i => p.getD (p.length - 1 - (k + 1) + (i + 1)) 0) = fun j => p.getD (p.length - 1 - k + j) 0 := by
      funext i
      congr 1
      omega
    rw [e, show p.length - 1 - (k + 1) + 0 = p.length - 2 - k by omega]
    grind

theorem hv_one {p : List Int} (h : 1 ≤ p.length) (z : Int) : hv p z 1 (p.length - 1) = ev p z := by
  rw [hv_horner p z _ (by omega), show p.length - 1 + 1 = p.length by omega, ev]
  exact evn_congr z (fun i => by rw [Nat.sub_self, Nat.zero_add]) _

theorem hv_below (f : List Int) (u : Int) : ∀ k, hv f u 0 k = f.getD (f.length - 1) 0 * u ^ k
  | 0 => by simp [hv]
  | k + 1 => by
    rw [hv, hv_below f u k, Int.zero_pow (by omega), Int.mul_zero, Int.add_zero, Int.pow_succ, Int.mul_assoc]

/-- the transformed polynomial is not 0 -/
theorem tr_ne {f : List Int} {P Q D : Int} (hf : f.getD (f.length - 1) 0 ≠ 0) (h : P ≠ Q) (k : Nat) : plen (trs f P Q D k).1 ≠ 0 := by
  intro h0
  have h1 := (tr_ev f P Q D (-1) k).1
  rw [show D + D * -1 = 0 by omega, hv_below] at h1
  have h2 : ev (trs f P Q D k).1 (-1) = 0 := by
    have h3 : ptrim (trs f P Q D k).1 = [] := List.eq_nil_of_length_eq_zero (by rw [ptrim_length]; exact h0)
    rw [← ev_trim, h3, ev_nil]
  rw [h2] at h1
  have h3 : (P + Q * -1) ^ k ≠ 0 := Int.pow_ne_zero (by omega)
  exact Int.mul_ne_zero hf h3 h1.symm

theorem pctd_mul (g : List Int) (k : Nat) : g.getD k 0 = (pcont g : Int) * (pctd g).getD k 0 := by
  rw [pctd_get]
  have h2 := pcont_get g k
  have h3 : (pcont g : Int) ∣ g.getD k 0 := by rw [← Int.natAbs_dvd_natAbs, Int.natAbs_natCast]; exact h2
  exact (Int.mul_tdiv_cancel' h3).symm
theorem pctd_cont {g : List Int} (h : plen g ≠ 0) : pcont (pctd g) = 1 := by
  have h2 := pcont_psc (pcont g : Int) (pctd g)
  have h3 : pcont (psc (pcont g : Int) (pctd g)) = pcont g := pcont_ext fun k => by rw [psc_get, ← pctd_mul]
  rw [h3, Int.natAbs_natCast] at h2
  have h5 := pcont_ne h
  exact Nat.eq_of_mul_eq_mul_left (Nat.pos_of_ne_zero h5) (by rw [Nat.mul_one]; exact h2.symm)
theorem pctd_plen (g : List Int) : plen (pctd g) ≤ plen g := plen_le_of fun k hk => by rw [pctd_get, getD_ge_plen g k hk, Int.zero_tdiv]

section
variable {f : List Int} {P Q D : Int}
theorem pmob_cont (hf : f.getD (f.length - 1) 0 ≠ 0) (h : P ≠ Q) : pcont (pmob f P Q D) = 1 := by
  unfold pmob
  have h1 := pcont_ext (p := ptrim (pctd (trs f P Q D (f.length - 1)).1)) (q := pctd (trs f P Q D (f.length - 1)).1) fun k => by rw [ptrim_getD]
  rw [h1]
  exact pctd_cont (tr_ne hf h _)
theorem pmob_ev (x : Int) : (pcont (trs f P Q D (f.length - 1)).1 : Int) * ev (pmob f P Q D) x = hv f (P + Q * x) (D + D * x) (f.length - 1) := by
  rw [← (tr_ev f P Q D x (f.length - 1)).1]
  unfold pmob
  rw [ev_trim, ← ev_psc]
  exact ev_congr (fun k => by rw [psc_get, ← pctd_mul]) x
theorem pmob_sign (hf : f.getD (f.length - 1) 0 ≠ 0) (h : P ≠ Q) (x : Int) : sg (ev (pmob f P Q D) x) = sg (hv f (P + Q * x) (D + D * x) (f.length - 1)) := by
  have h0 := pcont_ne (tr_ne (D := D) hf h (f.length - 1))
  rw [← pmob_ev (x := x), sg_mul_pos (by omega)]
/-- a constant ahead of f -/
theorem pmob_psc (hf : f.getD (f.length - 1) 0 ≠ 0) (h : P ≠ Q) {c : Int} (hc : c ≠ 0) (k : Nat) : (pmob (psc c f) P Q D).getD k 0 = sg c * (pmob f P Q D).getD k 0 := by
  have hl : (psc c f).length = f.length := by unfold psc; rw [List.length_map]
  have hg : ∀ k, (trs (psc c f) P Q D (f.length - 1)).1.getD k 0 = c * (trs f P Q D (f.length - 1)).1.getD k 0 := fun k => by
    rw [← psc_get]
    exact ev_inj (fun x => by rw [ev_psc, (tr_ev _ _ _ _ x _).1, (tr_ev _ _ _ _ x _).1, hv_psc]) k
  unfold pmob
  rw [hl, ptrim_getD, ptrim_getD]
  have h0 := pcont_ne (tr_ne (D := D) hf h (f.length - 1))
  obtain ⟨g, hge⟩ : ∃ g, g = (trs f P Q D (f.length - 1)).1 := ⟨_, rfl⟩
  obtain ⟨g', hge'⟩ : ∃ g', g' = (trs (psc c f) P Q D (f.length - 1)).1 := ⟨_, rfl⟩
  rw [← hge] at hg h0 ⊢
  rw [← hge'] at hg ⊢
  have hcc : pcont g' = c.natAbs * pcont g := by
    rw [← pcont_psc]
    exact pcont_ext fun k => by rw [hg, psc_get]
  have h1 := pctd_mul g' k
  rw [hg, pctd_mul g k, hcc] at h1
  have h2 : c * (pcont g : Int) ≠ 0 := Int.mul_ne_zero hc (by omega)
  have h3 : c = sg c * (c.natAbs : Int) := by
    rcases sg_cases c with ⟨h, e⟩ | ⟨h, e⟩ | ⟨h, e⟩ <;> rw [e] <;> omega
  have h4 : sg c * sg c = 1 := by
    rcases sg_cases c with ⟨h, e⟩ | ⟨h, e⟩ | ⟨h, e⟩ <;> rw [e] <;> first | rfl | omega
  have h5 : ((c.natAbs * pcont g : Nat) : Int) = sg c * (c * (pcont g : Int)) := by
    rw [← Int.mul_assoc]
    have : sg c * c = (c.natAbs : Int) := by
      rcases sg_cases c with ⟨h, e⟩ | ⟨h, e⟩ | ⟨h, e⟩ <;> rw [e] <;> omega
    rw [this, Int.natCast_mul]
  rw [h5] at h1
  refine Int.eq_of_mul_eq_mul_left h2 ?_
  have e1 : c * (pcont g : Int) * (pctd g).getD k 0 = sg c * (c * (pcont g : Int)) * (pctd g').getD k 0 := by rw [← h1, Int.mul_assoc]
  calc c * (pcont g : Int) * (pctd g').getD k 0 = (sg c * sg c) * (c * (pcont g : Int) * (pctd g').getD k 0) := by rw [h4, Int.one_mul]
    _ = sg c * (sg c * (c * (pcont g : Int)) * (pctd g').getD k 0) := by grind
    _ = sg c * (c * (pcont g : Int) * (pctd g).getD k 0) := by rw [e1]
    _ = c * (pcont g : Int) * (sg c * (pctd g).getD k 0) := by grind
end
end Go.Proofs.YtdihefmjfnlpcaaGreat

/- Sizes and ends of the transformation in Mobius. Plain, no program. -/
namespace Go.Proofs.YtdihefmjfnlpcaaGreat

theorem pc_two {g : List Int} (hg : ∀ j, 2 ≤ j → g.getD j 0 = 0) : ∀ (f : List Int) (k : Nat), pc f g k = f.getD k 0 * g.getD 0 0 + (if k = 0 then 0 else f.getD (k - 1) 0 * g.getD 1 0)
  | [], k => by rw [pc_nil]; simp
  | a :: t, 0 => by rw [pc_cons]; simp
  | a :: t, 1 => by
    rw [pc_cons, pc_two hg t 0]
    simp
    grind
  | a :: t, k + 2 => by
    rw [pc_cons, show k + 2 - 1 = k + 1 by omega, pc_two hg t (k + 1), hg (k + 2) (by omega)]
    simp

theorem two_zero (a b : Int) : ∀ j, 2 ≤ j → (ptrim [a, b]).getD j 0 = 0 := fun j h => by rw [ptrim_getD]; exact getD_out _ (by simpa using h)
theorem two_bound {f : List Int} {X : Nat} (hf : ∀ j, (f.getD j 0).natAbs ≤ X) (a b : Int) (k : Nat) : ((polymul f (ptrim [a, b])).getD k 0).natAbs ≤ X * (a.natAbs + b.natAbs) := by
  rw [polymul_getD, pc_two (two_zero a b), ptrim_getD, ptrim_getD]
  have h1 : (f.getD k 0 * a).natAbs ≤ X * a.natAbs := by rw [Int.natAbs_mul]; exact Nat.mul_le_mul_right _ (hf k)
  have h2 : (if k = 0 then (0 : Int) else f.getD (k - 1) 0 * b).natAbs ≤ X * b.natAbs := by
    split
    · simp
    · rw [Int.natAbs_mul]; exact Nat.mul_le_mul_right _ (hf _)
  rw [Nat.mul_add]
  exact Nat.le_trans (Int.natAbs_add_le _ _) (Nat.add_le_add h1 h2)
theorem two_len (f : List Int) (a b : Int) : (polymul (ptrim f) (ptrim [a, b])).length ≤ f.length + 1 := by
  unfold polymul
  split
  · simp
  · rw [pmul_length, ptrim_length, ptrim_length]
    have h1 := plen_le f
    have h2 := plen_le [a, b]
    simp at h2
    omega

theorem trs_bound (f : List Int) (P Q D : Int) {M B : Nat} (hM : ∀ j, (f.getD j 0).natAbs ≤ M) (h1 : P.natAbs + Q.natAbs ≤ B) (h2 : D.natAbs + D.natAbs ≤ B) : ∀ k,
    (∀ j, ((trs f P Q D k).1.getD j 0).natAbs ≤ M * (k + 1) * B ^ k) ∧ (∀ j, ((trs f P Q D k).2.1.getD j 0).natAbs ≤ B ^ k) ∧ (trs f P Q D k).2.2.natAbs ≤ B ^ k ∧ (trs f P Q D k).1.length ≤ k + 1 ∧ (trs f P Q D k).2.1.length ≤ k + 1
  | 0 => by
    refine ⟨fun j => ?_, fun j => ?_, by simp [trs], by simp [trs], by simp [trs]⟩
    · show ([f.getD (f.length - 1) 0].getD j 0).natAbs ≤ _
      match j with
      | 0 => simpa using hM (f.length - 1)
      | j + 1 => simp
    · show (([1] : List Int).getD j 0).natAbs ≤ _
      match j with
      | 0 => simp
      | j + 1 => simp
  | k + 1 => by
    obtain ⟨a1, a2, a3, a4, a5⟩ := trs_bound f P Q D hM h1 h2 k
    have b2 : ∀ j, ((polymul (ptrim (trs f P Q D k).2.1) (ptrim [D, D])).getD j 0).natAbs ≤ B ^ (k + 1) := fun j => by
      refine Nat.le_trans (two_bound (X := B ^ k) (fun i => by rw [ptrim_getD]; exact a2 i) D D j) ?_
      rw [Nat.pow_succ]
      exact Nat.mul_le_mul_left _ h2
    have b5 : (polymul (ptrim (trs f P Q D k).2.1) (ptrim [D, D])).length ≤ k + 1 + 1 := Nat.le_trans (two_len _ _ _) (by omega)
    refine ⟨fun j => ?_, b2, ?_, ?_, b5⟩
    · show ((ptrim (padd (polymul (ptrim (trs f P Q D k).1) (ptrim [P, Q])) (ptrim (psc (f.getD (f.length - 2 - k) 0) (polymul (ptrim (trs f P Q D k).2.1) (ptrim [D, D])))))).getD j 0).natAbs ≤ _
      rw [ptrim_getD, padd_get, ptrim_getD, psc_get]
      have c1 := two_bound (X := M * (k + 1) * B ^ k) (fun i => by rw [ptrim_getD]; exact a1 i) P Q j
      have c2 : (f.getD (f.length - 2 - k) 0 * (polymul (ptrim (trs f P Q D k).2.1) (ptrim [D, D])).getD j 0).natAbs ≤ M * B ^ (k + 1) := by
        rw [Int.natAbs_mul]; exact Nat.mul_le_mul (hM _) (b2 j)
      refine Nat.le_trans (Int.natAbs_add_le _ _) (Nat.le_trans (Nat.add_le_add c1 c2) ?_)
      calc M * (k + 1) * B ^ k * (P.natAbs + Q.natAbs) + M * B ^ (k + 1) ≤ M * (k + 1) * B ^ k * B + M * B ^ (k + 1) := Nat.add_le_add_right (Nat.mul_le_mul_left _ h1) _
        _ = M * (k + 1) * B ^ (k + 1) + M * B ^ (k + 1) := by rw [Nat.mul_assoc, ← Nat.pow_succ]
        _ = M * (k + 1 + 1) * B ^ (k + 1) := by rw [← Nat.add_mul, ← Nat.mul_succ]
    · show ((trs f P Q D k).2.2 * D).natAbs ≤ _
      rw [Int.natAbs_mul, Nat.pow_succ]
      exact Nat.mul_le_mul a3 (by omega)
    · show (ptrim (padd (polymul (ptrim (trs f P Q D k).1) (ptrim [P, Q])) (ptrim (psc (f.getD (f.length - 2 - k) 0) (polymul (ptrim (trs f P Q D k).2.1) (ptrim [D, D])))))).length ≤ _
      rw [ptrim_length]
      refine Nat.le_trans (plen_le _) ?_
      rw [padd_length, ptrim_length]
      have d1 := two_len (trs f P Q D k).1 P Q
      have d2 := plen_le (psc (f.getD (f.length - 2 - k) 0) (polymul (ptrim (trs f P Q D k).2.1) (ptrim [D, D])))
      have d3 : (psc (f.getD (f.length - 2 - k) 0) (polymul (ptrim (trs f P Q D k).2.1) (ptrim [D, D]))).length = (polymul (ptrim (trs f P Q D k).2.1) (ptrim [D, D])).length := by unfold psc; rw [List.length_map]
      omega

theorem pmob_plen (f : List Int) (P Q D : Int) (h : 1 ≤ f.length) : plen (pmob f P Q D) ≤ f.length := by
  unfold pmob
  rw [plen_ptrim]
  have h1 := pctd_plen (trs f P Q D (f.length - 1)).1
  have h2 := plen_le (trs f P Q D (f.length - 1)).1
  have h3 : (trs f P Q D (f.length - 1)).1.length ≤ f.length - 1 + 1 := by
    have hM : ∃ M : Nat, ∀ j, (f.getD j 0).natAbs ≤ M := by
      refine ⟨f.foldr (fun a g => a.natAbs + g) 0, fun j => ?_⟩
      clear h h1 h2
      induction f generalizing j with
      | nil => simp
      | cons a t ih =>
        match j with
        | 0 => simp
        | j + 1 => have := ih j; simp at this ⊢; omega
    obtain ⟨M, hM⟩ := hM
    exact (trs_bound f P Q D (B := P.natAbs + Q.natAbs + (D.natAbs + D.natAbs)) hM (by omega) (by omega) _).2.2.2.1
  omega

/-- the ends with one denominator -/
theorem cd_lo {q q' : Nat} (z z' : Int) (hq : 0 < q) (hq' : 0 < q') : 0 < cdD q q' z z' ∧ cdP q q' z z' * (q : Int) = z * cdD q q' z z' ∧ cdQ q q' z z' * (q' : Int) = z' * cdD q q' z z' := by
  have g1 : Nat.gcd z.natAbs q ∣ q := Nat.gcd_dvd_right _ _
  have g2 : Nat.gcd z'.natAbs q' ∣ q' := Nat.gcd_dvd_right _ _
  have p1 : 0 < q / Nat.gcd z.natAbs q := Nat.div_pos (Nat.le_of_dvd hq g1) (Nat.gcd_pos_of_pos_right _ hq)
  have p2 : 0 < q' / Nat.gcd z'.natAbs q' := Nat.div_pos (Nat.le_of_dvd hq' g2) (Nat.gcd_pos_of_pos_right _ hq')
  have hz : z.tdiv (Nat.gcd z.natAbs q) * ((Nat.gcd z.natAbs q : Nat) : Int) = z := Int.tdiv_mul_cancel (by rw [← Int.natAbs_dvd_natAbs, Int.natAbs_natCast]; exact Nat.gcd_dvd_left _ _)
  have hz' : z'.tdiv (Nat.gcd z'.natAbs q') * ((Nat.gcd z'.natAbs q' : Nat) : Int) = z' := Int.tdiv_mul_cancel (by rw [← Int.natAbs_dvd_natAbs, Int.natAbs_natCast]; exact Nat.gcd_dvd_left _ _)
  have hqq : ((q / Nat.gcd z.natAbs q : Nat) : Int) * ((Nat.gcd z.natAbs q : Nat) : Int) = (q : Int) := by rw [← Int.natCast_mul, Nat.div_mul_cancel g1]
  have hqq' : ((q' / Nat.gcd z'.natAbs q' : Nat) : Int) * ((Nat.gcd z'.natAbs q' : Nat) : Int) = (q' : Int) := by rw [← Int.natCast_mul, Nat.div_mul_cancel g2]
  have hD : (0 : Int) < cdD q q' z z' := by
    unfold cdD
    rw [lcd_eq]
    have := lcd_pos p1 p2
    omega
  have l1 : (cdD q q' z z').tdiv ((q / Nat.gcd z.natAbs q : Nat) : Int) * ((q / Nat.gcd z.natAbs q : Nat) : Int) = cdD q q' z z' := Int.tdiv_mul_cancel (Int.dvd_of_tmod_eq_zero lcd_left)
  have l2 : (cdD q q' z z').tdiv ((q' / Nat.gcd z'.natAbs q' : Nat) : Int) * ((q' / Nat.gcd z'.natAbs q' : Nat) : Int) = cdD q q' z z' := Int.tdiv_mul_cancel (Int.dvd_of_tmod_eq_zero lcd_right)
  refine ⟨hD, ?_, ?_⟩
  · unfold cdP
    generalize (cdD q q' z z').tdiv ((q / Nat.gcd z.natAbs q : Nat) : Int) = T at *
    generalize cdD q q' z z' = D at *
    generalize z.tdiv (Nat.gcd z.natAbs q) = y at *
    calc y * T * (q : Int) = y * T * (((q / Nat.gcd z.natAbs q : Nat) : Int) * ((Nat.gcd z.natAbs q : Nat) : Int)) := by rw [hqq]
      _ = (y * ((Nat.gcd z.natAbs q : Nat) : Int)) * (T * ((q / Nat.gcd z.natAbs q : Nat) : Int)) := by grind
      _ = z * D := by rw [hz, l1]
  · unfold cdQ
    generalize (cdD q q' z z').tdiv ((q' / Nat.gcd z'.natAbs q' : Nat) : Int) = T at *
    generalize cdD q q' z z' = D at *
    generalize z'.tdiv (Nat.gcd z'.natAbs q') = y at *
    calc y * T * (q' : Int) = y * T * (((q' / Nat.gcd z'.natAbs q' : Nat) : Int) * ((Nat.gcd z'.natAbs q' : Nat) : Int)) := by rw [hqq']
      _ = (y * ((Nat.gcd z'.natAbs q' : Nat) : Int)) * (T * ((q' / Nat.gcd z'.natAbs q' : Nat) : Int)) := by grind
      _ = z' * D := by rw [hz', l2]

theorem cd_ne {q q' : Nat} {z z' : Int} (hq : 0 < q) (hq' : 0 < q') (h : z * (q' : Int) < z' * (q : Int)) : cdP q q' z z' ≠ cdQ q q' z z' := by
  obtain ⟨hD, h1, h2⟩ := cd_lo z z' hq hq'
  intro e
  rw [e] at h1
  have h3 : z * cdD q q' z z' * (q' : Int) = z' * cdD q q' z z' * (q : Int) := by rw [← h1, ← h2]; grind
  have h4 : cdD q q' z z' * (z * (q' : Int)) = cdD q q' z z' * (z' * (q : Int)) := by grind
  have h5 := Int.mul_lt_mul_of_pos_left h hD
  omega

/-- Mobius at small fractions: every number fits -/
theorem mobok_small {f : List Int} {z z' : Int} {q q' : Nat} (hl : plen f ≤ 7) (hM : ∀ j, (f.getD j 0).natAbs ≤ 1073741824) (hz : z.natAbs ≤ 128) (hq : 0 < q) (hq1 : q ≤ 128) (hz' : z'.natAbs ≤ 128) (hq' : 0 < q') (hq1' : q' ≤ 128) : MobOK f q q' z z' := by
  intro h1 hlt
  obtain ⟨hD, hP, hQ⟩ := cd_lo z z' hq hq'
  have bD : (cdD q q' z z').natAbs ≤ 16384 := by
    unfold cdD
    rw [lcd_eq, Int.natAbs_natCast]
    have a1 : q / Nat.gcd z.natAbs q ≤ 128 := Nat.le_trans (Nat.div_le_self _ _) hq1
    have a2 : q' / Nat.gcd z'.natAbs q' ≤ 128 := Nat.le_trans (Nat.div_le_self _ _) hq1'
    exact Nat.le_trans (Nat.mul_le_mul (Nat.le_trans (Nat.div_le_self _ _) a1) a2) (by omega)
  have bP : (cdP q q' z z').natAbs ≤ 2097152 := by
    unfold cdP
    rw [Int.natAbs_mul, Int.natAbs_tdiv, Int.natAbs_tdiv]
    exact Nat.le_trans (Nat.mul_le_mul (Nat.le_trans (Nat.div_le_self _ _) hz) (Nat.le_trans (Nat.div_le_self _ _) bD)) (by omega)
  have bQ : (cdQ q q' z z').natAbs ≤ 2097152 := by
    unfold cdQ
    rw [Int.natAbs_mul, Int.natAbs_tdiv, Int.natAbs_tdiv]
    exact Nat.le_trans (Nat.mul_le_mul (Nat.le_trans (Nat.div_le_self _ _) hz') (Nat.le_trans (Nat.div_le_self _ _) bD)) (by omega)
  have hlen : 1 ≤ (ptrim f).length := by rw [ptrim_length]; exact h1
  have hlen7 : (ptrim f).length ≤ 7 := by rw [ptrim_length]; exact hl
  have hlead : (ptrim f).getD ((ptrim f).length - 1) 0 ≠ 0 := by
    rw [ptrim_getD, ptrim_length]
    exact fun e => by
      have := plead_zero.1 (show plead f = 0 from e)
      omega
  have hb := trs_bound (ptrim f) (cdP q q' z z') (cdQ q q' z z') (cdD q q' z z') (M := 1073741824) (B := 4194304) (fun j => by rw [ptrim_getD]; exact hM j) (by omega) (by omega)
  refine ⟨⟨?_, ?_, ?_, fun k hk => ?_⟩, tr_ne hlead (cd_ne hq hq' hlt) _, hlen⟩
  · exact Nat.lt_of_le_of_lt bP (by rw [BB_eq]; decide)
  · exact Nat.lt_of_le_of_lt bQ (by rw [BB_eq]; decide)
  · exact Nat.lt_of_le_of_lt bD (by rw [BB_eq]; decide)
  · obtain ⟨b1, b2, b3, b4, b5⟩ := hb k
    have hk6 : k ≤ 6 := by omega
    have p1 : 4194304 ^ k ≤ 4194304 ^ 6 := Nat.pow_le_pow_right (by omega) hk6
    have p2 : 1073741824 * (k + 1) * 4194304 ^ k ≤ 1073741824 * 7 * 4194304 ^ 6 := Nat.mul_le_mul (Nat.mul_le_mul_left _ (by omega)) p1
    have l1 : 1073741824 * 7 * 4194304 ^ 6 < BB ^ 40 := by rw [BB_eq]; decide
    have l2 : 4194304 ^ 6 < BB ^ 40 := by rw [BB_eq]; decide
    exact ⟨fun j => Nat.lt_of_le_of_lt (Nat.le_trans (b1 j) p2) l1, fun j => Nat.lt_of_le_of_lt (Nat.le_trans (b2 j) p1) l2, Nat.lt_of_le_of_lt (Nat.le_trans b3 p1) l2, by omega, by omega⟩

theorem pmob_fit {f : List Int} {P Q D : Int} (h : TrOK f P Q D) (h1 : 1 ≤ f.length) : FitP (pmob f P Q D) := fun k => by
  unfold pmob
  rw [ptrim_getD, pctd_get]
  exact Fit.le ((h.2.2.2 (f.length - 1) (by omega)).1 k) (by rw [Int.natAbs_tdiv]; exact Nat.div_le_self _ _)
theorem pmobius_zero {f : List Int} (q q' : Nat) (z z' : Int) (h : plen f = 0) : pmobius f q q' z z' = [] := by unfold pmobius; rw [if_pos (.inl h)]
theorem pmobius_at {f : List Int} {q q' : Nat} {z z' : Int} (h : plen f ≠ 0) (hlt : z * (q' : Int) < z' * (q : Int)) (tf : ptrim f = f) : pmobius f q q' z z' = pmob f (cdP q q' z z') (cdQ q q' z z') (cdD q q' z z') := by
  unfold pmobius
  rw [if_neg (fun e => e.elim h (fun h1 => h1 hlt)), tf]
theorem pmobius_trim (f : List Int) (q q' : Nat) (z z' : Int) : ptrim (pmobius f q q' z z') = pmobius f q q' z z' := by
  unfold pmobius
  split
  · rfl
  · unfold pmob; rw [ptrim_ptrim]
theorem pmobius_fit {f : List Int} {q q' : Nat} {z z' : Int} (hok : MobOK f q q' z z') : FitP (pmobius f q q' z z') := by
  by_cases h : plen f = 0 ∨ ¬ (z * (q' : Int) < z' * (q : Int))
  · unfold pmobius; rw [if_pos h]; exact fun k => by rw [List.getD_nil]; exact fit_unit (by decide)
  · have h1 : plen f ≠ 0 := fun e => h (.inl e)
    have h2 : z * (q' : Int) < z' * (q : Int) := Classical.byContradiction fun e => h (.inr e)
    unfold pmobius
    rw [if_neg h]
    obtain ⟨a, _, b⟩ := hok (by omega) h2
    exact pmob_fit a b
theorem pmobius_len {f : List Int} (q q' : Nat) (z z' : Int) : plen (pmobius f q q' z z') ≤ plen f := by
  by_cases h : plen f = 0 ∨ ¬ (z * (q' : Int) < z' * (q : Int))
  · unfold pmobius; rw [if_pos h]; exact Nat.zero_le _
  · unfold pmobius
    rw [if_neg h]
    have := pmob_plen (ptrim f) (cdP q q' z z') (cdQ q q' z z') (cdD q q' z z') (by rw [ptrim_length]; have : plen f ≠ 0 := fun e => h (.inl e); omega)
    rw [ptrim_length] at this
    exact this
end Go.Proofs.YtdihefmjfnlpcaaGreat

/- The law DescartesMoves, plain: constants, content, signs at the middle and at the lower end. -/
namespace Go.Proofs.YtdihefmjfnlpcaaGreat

theorem sval_one (p : List Int) (z : Int) : sval p z 1 = ev p z := by
  by_cases h : plen p = 0
  · have h1 : ptrim p = [] := List.eq_nil_of_length_eq_zero (by rw [ptrim_length]; exact h)
    rw [← ev_trim, h1, ev_nil]
    unfold sval
    rw [h]; rfl
  · have h1 := hv_one (p := ptrim p) (by rw [ptrim_length]; omega) z
    rw [sval_hv (by omega), ← ev_trim p z, ← h1, ptrim_length]

section
variable {f : List Int} {q0 q1 : Nat} {z0 z1 : Int}
theorem mov_lead (h : plen f ≠ 0) (tf : ptrim f = f) : f.getD (f.length - 1) 0 ≠ 0 := by
  have hl : f.length = plen f := by rw [← ptrim_length, tf]
  rw [hl]
  exact fun e => h (plead_zero.1 (show plead f = 0 from e))

theorem mov_same (h : plen f ≠ 0) (tf : ptrim f = f) (hq0 : 0 < q0) (hq1 : 0 < q1) (hlt : z0 * (q1 : Int) < z1 * (q0 : Int)) {n : Int} (hn : n ≠ 0) :
    ptrim (pmobius (ptrim (psc n f)) q0 q1 z0 z1) = ptrim (if n < 0 then pmn (ptrim (pmobius f q0 q1 z0 z1)) else pmobius f q0 q1 z0 z1) := by
  have hl : f.length = plen f := by rw [← ptrim_length, tf]
  have hp : plen (psc n f) = plen f := by
    have h1 : plen (psc n f) ≤ plen f := plen_le_of fun k hk => by rw [psc_get, getD_ge_plen f k hk, Int.mul_zero]
    have h2 : plen f ≤ plen (psc n f) := plen_le_of fun k hk => by
      have := getD_ge_plen (psc n f) k hk
      rw [psc_get] at this
      exact (Int.mul_eq_zero.1 this).resolve_left hn
    omega
  have ht : ptrim (psc n f) = psc n f := by
    have h1 : (psc n f).length = plen (psc n f) := by rw [hp, ← hl]; unfold psc; rw [List.length_map]
    unfold ptrim
    rw [← h1, List.take_length]
  rw [ht, pmobius_at (by rw [hp]; exact h) hlt ht, pmobius_at h hlt tf]
  have key := pmob_psc (D := cdD q0 q1 z0 z1) (mov_lead h tf) (cd_ne hq0 hq1 hlt) hn
  refine ptrim_ext fun k => ?_
  rw [key]
  by_cases hneg : n < 0
  · rw [if_pos hneg, sg_neg hneg, pmn_get, ptrim_getD]; omega
  · rw [if_neg hneg, sg_pos (by omega), Int.one_mul]

theorem mov_cont (h : plen f ≠ 0) (tf : ptrim f = f) (hq0 : 0 < q0) (hq1 : 0 < q1) (hlt : z0 * (q1 : Int) < z1 * (q0 : Int)) : pcont (pmobius f q0 q1 z0 z1) = 1 := by
  rw [pmobius_at h hlt tf]
  exact pmob_cont (mov_lead h tf) (cd_ne hq0 hq1 hlt)

theorem mov_mid (h : plen f ≠ 0) (tf : ptrim f = f) (hq0 : 0 < q0) (hq1 : 0 < q1) (hlt : z0 * (q1 : Int) < z1 * (q0 : Int)) {z q k : Int} (hk : 0 < k) (hq : 0 < q) (h1 : z * k = z0 * (q1 : Int) + z1 * (q0 : Int)) (h2 : q * k = (q0 : Int) * (q1 : Int) * 2) :
    sg (sval (pmobius f q0 q1 z0 z1) 1 1) = sg (sval f z q) := by
  obtain ⟨hD, hP, hQ⟩ := cd_lo z0 z1 hq0 hq1
  have hl : f.length = plen f := by rw [← ptrim_length, tf]
  rw [sval_one, pmobius_at h hlt tf, pmob_sign (mov_lead h tf) (cd_ne hq0 hq1 hlt), sval_hv (by omega), tf, hl]
  refine hv_sign f ?_ (by omega) hq _
  generalize cdP q0 q1 z0 z1 = P at *
  generalize cdQ q0 q1 z0 z1 = Q at *
  generalize cdD q0 q1 z0 z1 = D at *
  refine Int.eq_of_mul_eq_mul_left (Int.ne_of_gt hk) ?_
  calc k * ((P + Q * 1) * q) = (P + Q) * (q * k) := by grind
    _ = (P + Q) * ((q0 : Int) * (q1 : Int) * 2) := by rw [h2]
    _ = 2 * (P * (q0 : Int)) * (q1 : Int) + 2 * (Q * (q1 : Int)) * (q0 : Int) := by grind
    _ = 2 * (z0 * D) * (q1 : Int) + 2 * (z1 * D) * (q0 : Int) := by rw [hP, hQ]
    _ = (D + D) * (z0 * (q1 : Int) + z1 * (q0 : Int)) := by grind
    _ = (D + D) * (z * k) := by rw [h1]
    _ = k * (z * (D + D * 1)) := by grind

theorem mov_lo (h : plen f ≠ 0) (tf : ptrim f = f) (hq0 : 0 < q0) (hq1 : 0 < q1) (hlt : z0 * (q1 : Int) < z1 * (q0 : Int)) {z q k : Int} (hk : 0 < k) (hq : 0 < q) (h1 : z * k = z0) (h2 : q * k = (q0 : Int)) :
    sg (sval (pmobius f q0 q1 z0 z1) 0 1) = sg (sval f z q) := by
  obtain ⟨hD, hP, hQ⟩ := cd_lo z0 z1 hq0 hq1
  have hl : f.length = plen f := by rw [← ptrim_length, tf]
  rw [sval_one, pmobius_at h hlt tf, pmob_sign (mov_lead h tf) (cd_ne hq0 hq1 hlt), sval_hv (by omega), tf, hl]
  refine hv_sign f ?_ (by omega) hq _
  generalize cdP q0 q1 z0 z1 = P at *
  generalize cdQ q0 q1 z0 z1 = Q at *
  generalize cdD q0 q1 z0 z1 = D at *
  refine Int.eq_of_mul_eq_mul_left (Int.ne_of_gt hk) ?_
  calc k * ((P + Q * 0) * q) = P * (q * k) := by grind
    _ = z0 * D := by rw [h2, hP]
    _ = (z * k) * D := by rw [h1]
    _ = k * (z * (D + D * 0)) := by grind
end
end Go.Proofs.YtdihefmjfnlpcaaGreat

/- Sizes in the evaluation of a polynomial at a fraction. Plain. -/
namespace Go.Proofs.YtdihefmjfnlpcaaGreat

theorem scs_bound {p : List Int} {z q : Int} {X B n : Nat} (hX : ∀ j, (p.getD j 0).natAbs ≤ X) (hz : z.natAbs ≤ B) (hq : q.natAbs ≤ B) (hB : 1 ≤ B) : ∀ t, (scs p z q n t).1.natAbs ≤ X * t * B ^ t ∧ (scs p z q n t).2.natAbs ≤ B ^ t
  | 0 => by simp [scs]
  | t + 1 => by
    obtain ⟨h1, h2⟩ := scs_bound (n := n) hX hz hq hB t
    have hp : (if t = 0 then (scs p z q n t).2 else (scs p z q n t).2 * q).natAbs ≤ B ^ (t + 1) := by
      rw [Nat.pow_succ]
      split
      · exact Nat.le_trans h2 (Nat.le_mul_of_pos_right _ hB)
      · rw [Int.natAbs_mul]; exact Nat.mul_le_mul h2 hq
    refine ⟨?_, hp⟩
    show ((scs p z q n t).1 * z + p.getD (n - 1 - t) 0 * (if t = 0 then (scs p z q n t).2 else (scs p z q n t).2 * q)).natAbs ≤ _
    refine Nat.le_trans (Int.natAbs_add_le _ _) ?_
    rw [Int.natAbs_mul, Int.natAbs_mul]
    have a1 : (scs p z q n t).1.natAbs * z.natAbs ≤ X * t * B ^ t * B := Nat.mul_le_mul h1 hz
    have a2 := Nat.mul_le_mul (hX (n - 1 - t)) hp
    refine Nat.le_trans (Nat.add_le_add a1 a2) ?_
    rw [Nat.mul_assoc (X * t), ← Nat.pow_succ, ← Nat.add_mul, ← Nat.mul_succ]
    exact Nat.le_refl _

/-- evaluation at a small fraction fits -/
theorem scok_small {p : List Int} {z q : Int} (hl : plen p ≤ 7) (hX : ∀ j, (p.getD j 0).natAbs ≤ 1073741824 * 7 * 4194304 ^ 6) (hz : z.natAbs ≤ 4194304) (hq : q.natAbs ≤ 4194304) : ScOK p z q := by
  intro t ht
  obtain ⟨h1, h2⟩ := scs_bound (p := ptrim p) (n := plen p) (B := 4194304) (fun j => by rw [ptrim_getD]; exact hX j) hz hq (by omega) t
  have p1 : 4194304 ^ t ≤ 4194304 ^ 7 := Nat.pow_le_pow_right (by omega) (by omega)
  have p2 : 1073741824 * 7 * 4194304 ^ 6 * t * 4194304 ^ t ≤ 1073741824 * 7 * 4194304 ^ 6 * 7 * 4194304 ^ 7 := Nat.mul_le_mul (Nat.mul_le_mul_left _ (by omega)) p1
  exact ⟨Nat.lt_of_le_of_lt (Nat.le_trans h1 p2) (by rw [BB_eq]; decide), Nat.lt_of_le_of_lt (Nat.le_trans h2 p1) (by rw [BB_eq]; decide)⟩

/-- Mobius at small fractions: the result's coefficients -/
theorem pmobius_bound {f : List Int} {z z' : Int} {q q' : Nat} (hl : plen f ≤ 7) (hM : ∀ j, (f.getD j 0).natAbs ≤ 1073741824) (hz : z.natAbs ≤ 128) (hq1 : q ≤ 128) (hz' : z'.natAbs ≤ 128) (hq1' : q' ≤ 128) : ∀ j, ((pmobius f q q' z z').getD j 0).natAbs ≤ 1073741824 * 7 * 4194304 ^ 6 := by
  have bD : (cdD q q' z z').natAbs ≤ 16384 := by
    unfold cdD
    rw [lcd_eq, Int.natAbs_natCast]
    have a1 : q / Nat.gcd z.natAbs q ≤ 128 := Nat.le_trans (Nat.div_le_self _ _) hq1
    have a2 : q' / Nat.gcd z'.natAbs q' ≤ 128 := Nat.le_trans (Nat.div_le_self _ _) hq1'
    exact Nat.le_trans (Nat.mul_le_mul (Nat.le_trans (Nat.div_le_self _ _) a1) a2) (by omega)
  have bP : (cdP q q' z z').natAbs ≤ 2097152 := by
    unfold cdP
    rw [Int.natAbs_mul, Int.natAbs_tdiv, Int.natAbs_tdiv]
    exact Nat.le_trans (Nat.mul_le_mul (Nat.le_trans (Nat.div_le_self _ _) hz) (Nat.le_trans (Nat.div_le_self _ _) bD)) (by omega)
  have bQ : (cdQ q q' z z').natAbs ≤ 2097152 := by
    unfold cdQ
    rw [Int.natAbs_mul, Int.natAbs_tdiv, Int.natAbs_tdiv]
    exact Nat.le_trans (Nat.mul_le_mul (Nat.le_trans (Nat.div_le_self _ _) hz') (Nat.le_trans (Nat.div_le_self _ _) bD)) (by omega)
  intro j
  unfold pmobius
  split
  · rw [List.getD_nil]; exact Nat.zero_le _
  · unfold pmob
    rw [ptrim_getD, pctd_get, Int.natAbs_tdiv]
    refine Nat.le_trans (Nat.div_le_self _ _) ?_
    have hk6 : (ptrim f).length - 1 ≤ 6 := by rw [ptrim_length]; omega
    have h1 := (trs_bound (ptrim f) (cdP q q' z z') (cdQ q q' z z') (cdD q q' z z') (M := 1073741824) (B := 4194304) (fun j => by rw [ptrim_getD]; exact hM j) (by omega) (by omega) ((ptrim f).length - 1)).1 j
    exact Nat.le_trans h1 (Nat.mul_le_mul (Nat.mul_le_mul_left _ (by omega)) (Nat.pow_le_pow_right (by omega) hk6))
end Go.Proofs.YtdihefmjfnlpcaaGreat

/- The law DescartesMoves, plain: the signs in the spelling of the walk. -/
namespace Go.Proofs.YtdihefmjfnlpcaaGreat

theorem red_facts (y : Int) {t : Nat} (ht : 0 < t) : ∃ g : Nat, 0 < g ∧ y.tdiv (Nat.gcd y.natAbs t) * (g : Int) = y ∧ ((t / Nat.gcd y.natAbs t : Nat) : Int) * (g : Int) = (t : Int) ∧ (y.tdiv (Nat.gcd y.natAbs t)).natAbs ≤ y.natAbs ∧ 0 < t / Nat.gcd y.natAbs t ∧ t / Nat.gcd y.natAbs t ≤ t := by
  have hg : 0 < Nat.gcd y.natAbs t := Nat.gcd_pos_of_pos_right _ ht
  refine ⟨_, hg, Int.tdiv_mul_cancel (by rw [← Int.natAbs_dvd_natAbs, Int.natAbs_natCast]; exact Nat.gcd_dvd_left _ _), ?_, ?_, ?_, Nat.div_le_self _ _⟩
  · rw [← Int.natCast_mul, Nat.div_mul_cancel (Nat.gcd_dvd_right _ _)]
  · rw [Int.natAbs_tdiv]; exact Nat.div_le_self _ _
  · exact Nat.div_pos (Nat.le_of_dvd ht (Nat.gcd_dvd_right _ _)) hg

section
variable {f : List Int} {q0 q1 : Nat} {z0 z1 : Int}
/-- at the middle: with zm / qm the middle in lowest terms -/
theorem mov_mid2 (h : plen f ≠ 0) (tf : ptrim f = f) (hq0 : 0 < q0) (hq1 : 0 < q1) (hlt : z0 * (q1 : Int) < z1 * (q0 : Int)) {zm : Int} {qm : Nat} (hzm : zm = (z0 * (q1 : Int) + z1 * (q0 : Int)).tdiv (Nat.gcd (z0 * (q1 : Int) + z1 * (q0 : Int)).natAbs (q0 * q1 * 2))) (hqm : qm = q0 * q1 * 2 / Nat.gcd (z0 * (q1 : Int) + z1 * (q0 : Int)).natAbs (q0 * q1 * 2)) :
    sg (sval (pmobius f q0 q1 z0 z1) 1 1) = sg (sval f (zm.tdiv (Nat.gcd zm.natAbs qm)) ((qm / Nat.gcd zm.natAbs qm : Nat) : Int)) := by
  have ht : 0 < q0 * q1 * 2 := Nat.mul_pos (Nat.mul_pos hq0 hq1) (by omega)
  obtain ⟨g, hg, a1, a2, _, a3, _⟩ := red_facts (z0 * (q1 : Int) + z1 * (q0 : Int)) ht
  rw [← hzm] at a1
  rw [← hqm] at a2 a3
  obtain ⟨g', hg', b1, b2, _, b3, _⟩ := red_facts zm a3
  refine mov_mid h tf hq0 hq1 hlt (k := (g' : Int) * (g : Int)) (Int.mul_pos (by omega) (by omega)) (by omega) ?_ ?_
  · rw [← Int.mul_assoc, b1, a1]
  · rw [← Int.mul_assoc, b2, a2, Int.natCast_mul, Int.natCast_mul]; rfl
theorem mov_lo2 (h : plen f ≠ 0) (tf : ptrim f = f) (hq0 : 0 < q0) (hq1 : 0 < q1) (hlt : z0 * (q1 : Int) < z1 * (q0 : Int)) :
    sg (sval (pmobius f q0 q1 z0 z1) 0 1) = sg (sval f (z0.tdiv (Nat.gcd z0.natAbs q0)) ((q0 / Nat.gcd z0.natAbs q0 : Nat) : Int)) := by
  obtain ⟨g, hg, a1, a2, _, a3, _⟩ := red_facts z0 hq0
  exact mov_lo h tf hq0 hq1 hlt (k := (g : Int)) (by omega) (by omega) a1 a2
/-- bounds of the middle -/
theorem mid_bd (hz0 : z0.natAbs ≤ 128) (hz1 : z1.natAbs ≤ 128) (hq0 : 0 < q0) (hq1 : 0 < q1) (h0 : q0 ≤ 128) (h1 : q1 ≤ 128) {zm : Int} {qm : Nat} (hzm : zm = (z0 * (q1 : Int) + z1 * (q0 : Int)).tdiv (Nat.gcd (z0 * (q1 : Int) + z1 * (q0 : Int)).natAbs (q0 * q1 * 2))) (hqm : qm = q0 * q1 * 2 / Nat.gcd (z0 * (q1 : Int) + z1 * (q0 : Int)).natAbs (q0 * q1 * 2)) : zm.natAbs ≤ 32768 ∧ 0 < qm ∧ qm ≤ 32768 := by
  have ht : 0 < q0 * q1 * 2 := Nat.mul_pos (Nat.mul_pos hq0 hq1) (by omega)
  obtain ⟨g, hg, a1, a2, a4, a3, a5⟩ := red_facts (z0 * (q1 : Int) + z1 * (q0 : Int)) ht
  rw [← hzm] at a4
  rw [← hqm] at a3 a5
  have m0 : q0 * q1 ≤ 128 * 128 := Nat.mul_le_mul h0 h1
  have m1 : (z0 * (q1 : Int)).natAbs ≤ 128 * 128 := by rw [Int.natAbs_mul, Int.natAbs_natCast]; exact Nat.mul_le_mul hz0 h1
  have m2 : (z1 * (q0 : Int)).natAbs ≤ 128 * 128 := by rw [Int.natAbs_mul, Int.natAbs_natCast]; exact Nat.mul_le_mul hz1 h0
  have m3 := Int.natAbs_add_le (z0 * (q1 : Int)) (z1 * (q0 : Int))
  refine ⟨by omega, a3, by omega⟩
end
end Go.Proofs.YtdihefmjfnlpcaaGreat
