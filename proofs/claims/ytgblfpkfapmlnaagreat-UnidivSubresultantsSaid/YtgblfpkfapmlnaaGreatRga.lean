/- The greatest common divisor as the reference computes it is that of the program. Plain: no program. -/
import Derived.Test.YtgblfpkfapmlnaaGreatGtn
import Derived.Test.YtgblfpkfapmlnaaGreatBto
namespace Go.Proofs.YtgblfpkfapmlnaaGreat

theorem plen_scale {p q : List Int} {c d : Int} (hc : c ≠ 0) (hd : d ≠ 0) (h : ∀ k, c * p.getD k 0 = d * q.getD k 0) : plen p = plen q := by
  have h1 : plen p ≤ plen q := plen_le_of fun k hk => by
    have := h k
    rw [getD_ge_plen q k hk, Int.mul_zero] at this
    exact (Int.mul_eq_zero.1 this).resolve_left hc
  have h2 : plen q ≤ plen p := plen_le_of fun k hk => by
    have := h k
    rw [getD_ge_plen p k hk, Int.mul_zero] at this
    exact (Int.mul_eq_zero.1 this.symm).resolve_left hd
  omega
/-- primitive parts do not heed factors -/
theorem pprim_scale {p q : List Int} {c d : Int} (hc : c ≠ 0) (hd : d ≠ 0) (h : ∀ k, c * p.getD k 0 = d * q.getD k 0) : pprim p = pprim q := by
  have hl := plen_scale hc hd h
  by_cases hp : plen p = 0
  · unfold pprim; rw [if_pos hp, if_pos (by omega)]
  · have hq : plen q ≠ 0 := by omega
    have d1 : Dvq (pprim p) (pprim q) := (dvq_prim_l hp).trans ((dvq_scale (e := c) (e' := d) hd h).trans (dvq_prim_r hq))
    have d2 : Dvq (pprim q) (pprim p) := (dvq_prim_l hq).trans ((dvq_scale (e := d) (e' := c) hc (fun k => (h k).symm)).trans (dvq_prim_r hp))
    exact eq_of_trim (gp_trim p) (gp_trim q) (dvq_eq (gp_lead hp) (gp_lead hq) (by rw [gp_cont hp, gp_cont hq]) d1 d2)
/-- associated polynomials have the same primitive part -/
theorem pprim_assoc {p q : List Int} (hp : plen p ≠ 0) (hq : plen q ≠ 0) (h1 : Dvq p q) (h2 : Dvq q p) : pprim p = pprim q :=
  eq_of_trim (gp_trim p) (gp_trim q) (dvq_eq (gp_lead hp) (gp_lead hq) (by rw [gp_cont hp, gp_cont hq]) ((dvq_prim_l hp).trans (h1.trans (dvq_prim_r hq))) ((dvq_prim_l hq).trans (h2.trans (dvq_prim_r hp))))

/-- the remainder of multiples is a multiple of the remainder -/
theorem psr_scale {f f' g g' : List Int} {s t : Int} (hs : s ≠ 0) (ht : t ≠ 0) (hf : ∀ k, f.getD k 0 = s * f'.getD k 0) (hg : ∀ k, g.getD k 0 = t * g'.getD k 0) (h1 : 1 ≤ plen g) : ∃ c : Int, c ≠ 0 ∧ ∀ k, (psr f g).getD k 0 = c * (psr f' g').getD k 0 := by
  have lf : plen f = plen f' := plen_scale (c := 1) (d := s) (by decide) hs (fun k => by rw [Int.one_mul]; exact hf k)
  have lg : plen g = plen g' := plen_scale (c := 1) (d := t) (by decide) ht (fun k => by rw [Int.one_mul]; exact hg k)
  have ld : plead g = t * plead g' := by unfold plead; rw [← lg]; exact hg _
  obtain ⟨N, hN⟩ : ∃ N, N = plen f - (plen g - 1) := ⟨_, rfl⟩
  have i1 := ps_ev f g h1
  have i2 := ps_ev f' g' (by omega)
  rw [← hN, ld] at i1
  rw [← lf, ← lg, ← hN] at i2
  have ef : ∀ x, ev f x = s * ev f' x := fun x => by rw [← ev_psc]; exact ev_congr (fun k => by rw [psc_get, hf]) x
  have eg : ∀ x, ev g x = t * ev g' x := fun x => by rw [← ev_psc]; exact ev_congr (fun k => by rw [psc_get, hg]) x
  have key : ∀ x, ev (psc t (psq f g)) x * ev g x + ev (psc t (psr f g)) x = ev (psc (s * t ^ N) (psq f' g')) x * ev g x + ev (psc (s * t ^ N * t) (psr f' g')) x := fun x => by
    have j1 := i1 x
    have j2 := i2 x
    rw [ev_psc, ev_psc, ev_psc, ev_psc]
    rw [ef, Int.mul_pow] at j1
    have e1 : t * ev (psq f g) x * ev g x + t * ev (psr f g) x = t * (ev (psq f g) x * ev g x + ev (psr f g) x) := by rw [Int.mul_add, Int.mul_assoc]
    rw [e1, ← j1]
    have e2 : t * (t ^ N * plead g' ^ N * (s * ev f' x)) = s * t ^ N * t * (plead g' ^ N * ev f' x) := by ac_rfl
    rw [e2, j2, Int.mul_add, eg]
    congr 1
    ac_rfl
  have hr1 : plen (psc t (psr f g)) < plen g := by
    have := psr_plen f g h1
    have : plen (psc t (psr f g)) ≤ plen (psr f g) := plen_le_of fun k hk => by rw [psc_get, getD_ge_plen _ k hk, Int.mul_zero]
    omega
  have hr2 : plen (psc (s * t ^ N * t) (psr f' g')) < plen g := by
    have := psr_plen f' g' (by omega)
    have : plen (psc (s * t ^ N * t) (psr f' g')) ≤ plen (psr f' g') := plen_le_of fun k hk => by rw [psc_get, getD_ge_plen _ k hk, Int.mul_zero]
    omega
  have hu := (div_unique h1 hr1 hr2 (q1 := psc t (psq f g)) (q2 := psc (s * t ^ N) (psq f' g')) (fun k => by
    have e : ∀ (q r : List Int), pc q g k + r.getD k 0 = (padd (polymul q g) r).getD k 0 := fun q r => by rw [padd_get, polymul_getD]
    rw [e, e]
    exact ev_inj (fun x => by rw [ev_padd, ev_padd, ev_mul, ev_mul]; exact key x) k)).2
  refine ⟨s * t ^ N, Int.mul_ne_zero hs (Int.pow_ne_zero ht), fun k => ?_⟩
  have := hu k
  rw [psc_get, psc_get] at this
  refine Int.eq_of_mul_eq_mul_left ht ?_
  rw [this]
  ac_rfl
theorem psr_prim {f g : List Int} (hf : plen f ≠ 0) (hg : plen g ≠ 0) : pprim (psr (pprim f) (pprim g)) = pprim (psr f g) := by
  obtain ⟨c, hc, h⟩ := psr_scale (gp_ne hf) (gp_ne hg) (gp_get hf) (gp_get hg) (by omega)
  exact pprim_scale (c := c) (d := 1) hc (by decide) (fun k => by rw [Int.one_mul]; exact (h k).symm)

/-- what holds in the loop of the reference: x, y are the primitive parts of two neighbours in the sequence, L that of the last element -/
structure RG (f g : List Int) (m n G e N : Nat) (L x y : List Int) : Prop where
  or_ : (y = [] ∧ x = L) ∨ ∃ t C, SInv f g m n G e t C ∧ x = pprim t.a ∧ y = pprim t.b ∧ pprim (lst t.b (rsq t.b.length t)) = L
  xb : ∀ k, (x.getD k 0).natAbs ≤ G ^ (m + n + 2)
  xl : x.length ≤ m + 1
section
variable {f g L x y : List Int} {m n G e N : Nat}
theorem gp_length (p : List Int) : (pprim p).length = plen p := by
  have := congrArg List.length (gp_trim p)
  rw [ptrim_length, gp_plen] at this
  exact this.symm
theorem rsq_more (ok : GOK G m n e N) (hlow : ∀ p, Comb f g p → 1 ≤ plen p → e + 1 ≤ plen p) (hf : ∀ k, (f.getD k 0).natAbs * (m + n) ≤ G) (hg : ∀ k, (g.getD k 0).natAbs * (m + n) ≤ G) : ∀ (k j : Nat) (t : RS) (C : Int), SInv f g m n G e t C → t.b.length ≤ k → t.b.length ≤ j → rsq k t = rsq j t
  | 0, j, t, C, h, hk, hj => by have := h.b0; omega
  | k + 1, 0, t, C, h, hk, hj => by have := h.b0; omega
  | k + 1, j + 1, t, C, h, hk, hj => by
    rw [rsq, rsq]
    by_cases hr : psr t.a t.b = []
    · rw [if_pos hr, if_pos hr]
    · rw [if_neg hr, if_neg hr]
      obtain ⟨_, h2, h3⟩ := h.step ok hlow hf hg hr
      have hb : t.next.b.length < t.b.length := h3
      rw [rsq_more ok hlow hf hg k j t.next _ h2 (by omega) (by omega)]

/-- one round of the loop -/
theorem RG.step (ok : GOK G m n e N) (hlow : ∀ p, Comb f g p → 1 ≤ plen p → e + 1 ≤ plen p) (hf : ∀ k, (f.getD k 0).natAbs * (m + n) ≤ G) (hg : ∀ k, (g.getD k 0).natAbs * (m + n) ≤ G) (h : RG f g m n G e N L x y) (hy : y ≠ []) :
    RG f g m n G e N L y (pprim (psr x y)) ∧ (pprim (psr x y)).length < y.length ∧ plen y = y.length ∧ (∀ k, (y.getD k 0).natAbs ≤ G ^ (m + n + 2)) ∧ y.length ≤ n + 1 := by
  rcases h.or_ with ⟨h0, _⟩ | ⟨t, C, hi, rfl, rfl, hL⟩
  · exact absurd h0 hy
  have ha : plen t.a ≠ 0 := by rw [hi.ta]; have := hi.lb; have := hi.b0; omega
  have hb : plen t.b ≠ 0 := by rw [hi.tb]; have := hi.b0; omega
  have hyb : ∀ k, ((pprim t.b).getD k 0).natAbs ≤ G ^ (m + n + 2) := fun k => Nat.le_trans (pprim_abs _ k) (Nat.le_trans (hi.bs k) (Nat.pow_le_pow_right ok.pos (by omega)))
  have hyl : (pprim t.b).length ≤ n + 1 := by rw [gp_length, hi.tb]; exact hi.lg
  have hxl := h.xl
  have hlt : (pprim (psr (pprim t.a) (pprim t.b))).length < (pprim t.b).length := by
    rw [gp_length, gp_length]
    have := psr_plen (pprim t.a) (pprim t.b) (by rw [gp_plen]; omega)
    rw [gp_plen] at this
    exact this
  refine ⟨⟨?_, hyb, by rw [gp_length] at hxl; have := hi.lb; have := hi.la; have := hi.tb; rw [gp_length]; omega⟩, hlt, by rw [gp_plen, gp_length], hyb, hyl⟩
  rw [psr_prim ha hb]
  obtain ⟨j, hj⟩ : ∃ j, t.b.length = j + 1 := ⟨t.b.length - 1, by have := hi.b0; omega⟩
  rw [hj, rsq] at hL
  by_cases hr : psr t.a t.b = []
  · rw [if_pos hr] at hL
    exact .inl ⟨by rw [hr]; rfl, hL⟩
  · rw [if_neg hr] at hL
    obtain ⟨_, h2, h3⟩ := hi.step ok hlow hf hg hr
    have hb3 : t.next.b.length < t.b.length := h3
    refine .inr ⟨t.next, _, h2, rfl, pprim_scale (c := 1) (d := t.dv) (by decide) hi.dv0 (fun k => by rw [Int.one_mul]; exact (hi.rest hr k).2), ?_⟩
    rw [rsq_more ok hlow hf hg t.next.b.length j t.next _ h2 (Nat.le_refl _) (by omega)]
    exact hL
theorem RG.start {a b : List Int} {k : Nat} (he : e ≤ n) (hlow : ∀ p, Comb a b p → 1 ≤ plen p → e + 1 ≤ plen p) (ha : a.length = m + 1) (hb : b.length = n + 1) (ta : pprim a = a) (tb : pprim b = b) (hmn : n ≤ m) (ok : GOK G m n e N) (hf0 : ∀ k, (a.getD k 0).natAbs ≤ G) (hg0 : ∀ k, (b.getD k 0).natAbs ≤ G) (hf : ∀ k, (a.getD k 0).natAbs * (m + n) ≤ G) (hg : ∀ k, (b.getD k 0).natAbs * (m + n) ≤ G) (hk : b.length ≤ k) :
    RG a b m n G e N (pprim (gcl k a b)) a b := by
  have la : plen a = a.length := by rw [← gp_length, ta]
  have lb : plen b = b.length := by rw [← gp_length, tb]
  have hs := sinv_start (e := e) he ha hb la lb hmn ok.pos hf0 hg0
  have hsp := SInv.spec ok hlow hf hg b.length _ _ hs (Nat.le_refl _)
  obtain ⟨c, c1, d1, d2⟩ := gcl_spec he hlow ha hb la lb hmn ok hf0 hg0 hf hg hk
  have els := SInv.els ok hlow hf hg b.length _ _ hs
  refine ⟨.inr ⟨_, _, hs, ta.symm, tb.symm, ?_⟩, fun k => Nat.le_trans (hf0 k) (by calc G = G ^ 1 := (Nat.pow_one _).symm
                                                                                _ ≤ _ := Nat.pow_le_pow_right ok.pos (by omega)), by omega⟩
  obtain ⟨s1, s2, s3⟩ := hsp
  have hl := lst_mem (rsq b.length ⟨a, b, -1, (-1) ^ (a.length - b.length + 1)⟩) b
  obtain ⟨M, hM⟩ : ∃ M, M = lst b (rsq b.length ⟨a, b, -1, (-1) ^ (a.length - b.length + 1)⟩) := ⟨_, rfl⟩
  show pprim (lst b (rsq b.length _)) = _
  have s2' : Dvq M a := by rw [hM]; exact s2
  have s3' : Dvq M b := by rw [hM]; exact s3
  rw [← hM] at hl ⊢
  have hMc : Comb a b M ∧ 1 ≤ plen M := by
    rcases List.mem_cons.1 hl with h | h
    · rw [h]; exact ⟨Comb.right _ _, by omega⟩
    · obtain ⟨_, _, h3, h4⟩ := els M h
      exact ⟨s1 M h, by omega⟩
  exact pprim_assoc (by omega) (by omega) (Dvq.comb s2' s3' c) (Dvq.comb d1 d2 hMc.1)
end
end Go.Proofs.YtgblfpkfapmlnaaGreat
