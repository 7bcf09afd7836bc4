/- What unidiv.Gcd returns, with zeros; sizes for small polynomials, their products and their greatest common divisors. Plain: no program. -/
import Derived.Test.YtjoenabcjioncaaGtm
namespace Go.Proofs.Ytjoenabcjioncaa

/-- unidiv.Gcd can be computed -/
def GAny (f g : List Int) : Prop := plen f = 0 ∨ plen g = 0 ∨ ∃ e S, GC f g e S
/-- its value -/
def gres (f g : List Int) : List Int := if plen f = 0 then ppos g else if plen g = 0 then ppos f else gval f g
theorem ppos_nil {g : List Int} (h : plen g = 0) : ppos g = [] := by
  unfold ppos
  rw [if_neg (by rw [plead_zero.2 h]; omega)]
  exact List.eq_nil_of_length_eq_zero (by rw [ptrim_length, h])
theorem gres_is {f g : List Int} (h : GAny f g) : IsG f g (gres f g) := by
  unfold gres
  split
  · rename_i hf
    by_cases hg : plen g = 0
    · exact .inl ⟨hf, hg, ppos_nil hg⟩
    · exact .inr ⟨fun e => hg e.2, isgcd_zero hf hg⟩
  · rename_i hf
    split
    · rename_i hg
      exact .inr ⟨fun e => hf e.1, (isgcd_zero hg hf).symm⟩
    · rename_i hg
      obtain ⟨e, S, hc⟩ := (h.resolve_left hf).resolve_left hg
      exact .inr ⟨fun e => hf e.1, hc.all.1⟩
theorem IsGcd.congr {f f' g g' D : List Int} (hf : ∀ k, f.getD k 0 = f'.getD k 0) (hg : ∀ k, g.getD k 0 = g'.getD k 0) (h : IsGcd f g D) : IsGcd f' g' D := by
  have ef : ∀ x, ev f x = ev f' x := ev_congr hf
  have eg : ∀ x, ev g x = ev g' x := ev_congr hg
  refine ⟨h.trim, h.lead, by rw [h.cont, pcont_ext (p := f) (q := f') (fun k => by rw [hf k]), pcont_ext (p := g) (q := g') (fun k => by rw [hg k])], ?_, ?_, ?_⟩
  · obtain ⟨c, q, h1, h2⟩ := h.l
    exact ⟨c, q, h1, fun x => by rw [← ef]; exact h2 x⟩
  · obtain ⟨c, q, h1, h2⟩ := h.r
    exact ⟨c, q, h1, fun x => by rw [← eg]; exact h2 x⟩
  · obtain ⟨c, u, v, h1, h2⟩ := h.c
    exact ⟨c, u, v, h1, fun x => by rw [← ef, ← eg]; exact h2 x⟩
theorem IsG.trims {f g D : List Int} (h : IsG f g D) : IsG (ptrim f) (ptrim g) D := by
  unfold IsG
  rw [plen_ptrim, plen_ptrim]
  rcases h with h | ⟨h1, h2⟩
  · exact .inl h
  · exact .inr ⟨h1, h2.congr (fun k => (ptrim_getD f k).symm) (fun k => (ptrim_getD g k).symm)⟩

/-- a small polynomial -/
def Few5 (f : List Int) : Prop := plen f ≤ 5 ∧ ∀ j, (f.getD j 0).natAbs ≤ 4294967296
/-- the size of a greatest common divisor of small polynomials -/
structure DS (d : List Int) : Prop where
  t : ptrim d = d
  l : plen d ≤ 5
  p : ∀ j, ((pprim d).getD j 0).natAbs ≤ (4294967296 * 32) ^ (max 1 (10 - 2 * plen d))
  c : pcont d ≤ 4294967296
theorem DS.b {d : List Int} (h : DS d) (j : Nat) : (d.getD j 0).natAbs ≤ 4294967296 * (4294967296 * 32) ^ 8 := by
  by_cases h0 : plen d = 0
  · rw [getD_ge_plen d j (by omega)]; simp
  · rw [gp_get h0, Int.natAbs_mul, Int.natAbs_mul, Int.natAbs_natCast]
    refine Nat.mul_le_mul ?_ (Nat.le_trans (h.p j) (Nat.pow_le_pow_right (by decide) (by omega)))
    have h1 : (sg (plead d)).natAbs ≤ 1 := by rcases sg_cases (plead d) with ⟨_, e⟩ | ⟨_, e⟩ | ⟨_, e⟩ <;> rw [e] <;> decide
    exact Nat.le_trans (Nat.mul_le_mul h1 h.c) (by omega)
theorem DS.fit {d : List Int} (h : DS d) : FitP d := fun j => Nat.lt_of_le_of_lt (h.b j) (by rw [BB_eq]; decide +kernel)
theorem Few5.fit {f : List Int} (h : Few5 f) : FitP f := fun j => Nat.lt_of_le_of_lt (h.2 j) (by rw [BB_eq]; decide +kernel)
theorem Few5.cont {f : List Int} (h : Few5 f) (h0 : plen f ≠ 0) : pcont f ≤ 4294967296 := pcont_le h0 h.2
theorem Few5.ds {f : List Int} (h : Few5 f) : DS (ppos f) := by
  refine ⟨ppos_trim f, by rw [ppos_plen]; exact h.1, fun j => ?_, ?_⟩
  · refine Nat.le_trans (pprim_abs _ j) ?_
    have h1 : ((ppos f).getD j 0).natAbs ≤ 4294967296 := by
      rcases ppos_or f with ⟨h1, _⟩ | ⟨h1, _⟩
      · rw [h1]; exact h.2 j
      · rw [h1, Int.natAbs_neg]; exact h.2 j
    refine Nat.le_trans h1 (Nat.le_trans (show 4294967296 ≤ (4294967296 * 32) ^ 1 by decide) (Nat.pow_le_pow_right (by decide) (Nat.le_max_left _ _)))
  · rw [ppos_cont]
    by_cases h0 : plen f = 0
    · rw [pcont_zero h0]; omega
    · exact h.cont h0
theorem gcd_le_r {a b X : Nat} (hb : b ≠ 0) (h : b ≤ X) : Nat.gcd a b ≤ X := Nat.le_trans (Nat.gcd_le_right a (by omega)) h
theorem gcd_le_l {a b X : Nat} (ha : a ≠ 0) (h : a ≤ X) : Nat.gcd a b ≤ X := Nat.le_trans (Nat.gcd_le_left b (by omega)) h

theorem few_gc {f g : List Int} (hf : Few5 f) (hg : Few5 g) (f0 : plen f ≠ 0) (g0 : plen g ≠ 0) : GC f g 0 4294967296 := by
  have h1 := hf.1
  have h2 := hg.1
  refine ⟨f0, g0, by omega, by omega, by omega, fun p _ h => by omega, fun j => Nat.le_trans (pprim_abs f j) (hf.2 j), fun j => Nat.le_trans (pprim_abs g j) (hg.2 j), by omega, gc_ok (by omega) (by omega) (by omega) (by omega) ?_, ?_⟩
  · refine Nat.lt_of_le_of_lt (Nat.pow_le_pow_right (by decide) (show max 2 (plen f + plen g - 2 - 2 * 0) ≤ 8 by omega)) (by rw [BB_eq]; decide +kernel)
  · rw [pconts_two]
    exact Nat.le_trans (gcd_le_r (pcont_ne g0) (hg.cont g0)) (by omega)
theorem few_ga {f g : List Int} (hf : Few5 f) (hg : Few5 g) : GAny f g := by
  by_cases f0 : plen f = 0
  · exact .inl f0
  by_cases g0 : plen g = 0
  · exact .inr (.inl g0)
  exact .inr (.inr ⟨_, _, few_gc hf hg f0 g0⟩)
theorem gval_ds {f g : List Int} (hf : Few5 f) (hg : Few5 g) (f0 : plen f ≠ 0) (g0 : plen g ≠ 0) : DS (gval f g) := by
  obtain ⟨h1, _, _, h4, _⟩ := (few_gc hf hg f0 g0).all
  have hl : plen (gval f g) ≤ plen f := dvq_plen h1.l f0
  have h5 := hf.1
  have h6 := hg.1
  refine ⟨h1.trim, by omega, fun j => Nat.le_trans (h4 j) (Nat.pow_le_pow_right (by decide) (by omega)), ?_⟩
  rw [h1.cont]
  exact gcd_le_r (pcont_ne g0) (hg.cont g0)
theorem gres_ds {f g : List Int} (hf : Few5 f) (hg : Few5 g) : DS (gres f g) := by
  unfold gres
  split
  · exact hg.ds
  · rename_i f0
    split
    · exact hf.ds
    · rename_i g0
      exact gval_ds hf hg f0 g0

theorem ds_tab : ∀ p, p < 6 → 1 ≤ p → ((4294967296 * 32) ^ (max 1 (10 - 2 * p)) * 32) ^ (max 2 (p + 3)) < 4294967296 ^ 40 := by decide +kernel
theorem ds_gc {d h : List Int} (hd : DS d) (hh : Few5 h) (d0 : plen d ≠ 0) (h0 : plen h ≠ 0) : GC d h 0 ((4294967296 * 32) ^ (max 1 (10 - 2 * plen d))) := by
  have hl := hd.l
  have hl2 := hh.1
  have h1 : 4294967296 ≤ (4294967296 * 32) ^ (max 1 (10 - 2 * plen d)) := Nat.le_trans (show 4294967296 ≤ (4294967296 * 32) ^ 1 by decide) (Nat.pow_le_pow_right (by decide) (Nat.le_max_left _ _))
  refine ⟨d0, h0, by omega, by omega, by omega, fun p _ h => by omega, hd.p, fun j => Nat.le_trans (Nat.le_trans (pprim_abs h j) (hh.2 j)) h1, by omega, gc_ok (by omega) (by omega) (by omega) (by omega) ?_, ?_⟩
  · rw [BB_eq]
    refine Nat.lt_of_le_of_lt (Nat.pow_le_pow_right (by omega) (show max 2 (plen d + plen h - 2 - 2 * 0) ≤ max 2 (plen d + 3) by omega)) (ds_tab _ (by omega) (by omega))
  · rw [pconts_two]
    exact Nat.le_trans (gcd_le_r (pcont_ne h0) (hh.cont h0)) (by omega)
theorem ds_ga {d h : List Int} (hd : DS d) (hh : Few5 h) : GAny d h := by
  by_cases d0 : plen d = 0
  · exact .inl d0
  by_cases h0 : plen h = 0
  · exact .inr (.inl h0)
  exact .inr (.inr ⟨_, _, ds_gc hd hh d0 h0⟩)
theorem GC.symm {f g : List Int} {e S : Nat} (h : GC f g e S) : GC g f e S := by
  refine ⟨h.g0, h.f0, by have := h.sum; omega, h.ge, h.fe, fun p ⟨c, u, v, h1, h2⟩ hp => h.low p ⟨c, v, u, h1, fun x => by rw [h2, Int.add_comm]⟩ hp, h.sg, h.sf, h.s1, ?_, ?_⟩
  · intro m n h1 h2 h3 h4
    exact h.ok m n h1 h2 (by rw [Nat.max_comm]; exact h3) (by omega)
  · have := h.k
    rw [pconts_two] at this ⊢
    rw [Nat.gcd_comm]; exact this
theorem GAny.symm {f g : List Int} (h : GAny f g) : GAny g f := by
  rcases h with h | h | ⟨e, S, h⟩
  · exact .inr (.inl h)
  · exact .inl h
  · exact .inr (.inr ⟨e, S, h.symm⟩)

/-- the products of small polynomials with one factor in common -/
theorem mul_ga {f g h : List Int} (hf : Few5 f) (hg : Few5 g) (hh : Few5 h) : GAny (polymul f h) (polymul g h) := by
  by_cases f0 : plen f = 0
  · exact .inl (polymul_zero_l f0)
  by_cases g0 : plen g = 0
  · exact .inr (.inl (polymul_zero_l g0))
  by_cases h0 : plen h = 0
  · exact .inl (polymul_zero_r h0)
  have e1 := (plen_mul (f := f) (g := h) (by omega) (by omega)).1
  have e2 := (plen_mul (f := g) (g := h) (by omega) (by omega)).1
  have l1 := hf.1
  have l2 := hg.1
  have l3 := hh.1
  have bd : ∀ {p : List Int}, Few5 p → ∀ j, ((polymul p h).getD j 0).natAbs ≤ 10 * (4294967296 * 4294967296) := fun {p} hp j => by
    rw [polymul_getD]
    by_cases hj : j + 1 ≤ 10
    · exact Nat.le_trans (pcs_bd' hp.2 hh.2 j (j + 1)) (Nat.mul_le_mul_right _ hj)
    · rw [pc_above (a := 4) (b := 4) (fun i hi => getD_ge_plen p i (by have := hp.1; omega)) (fun i hi => getD_ge_plen h i (by omega)) (by omega)]; simp
  have dv : ∀ p : List Int, Dvq h (polymul p h) := fun p => ⟨1, p, by decide, fun x => by rw [Int.one_mul, ev_mul]⟩
  refine .inr (.inr ⟨plen h - 1, 10 * (4294967296 * 4294967296), by omega, by omega, by omega, by omega, by omega, fun p c hp => ?_, fun j => Nat.le_trans (pprim_abs _ j) (bd hf j), fun j => Nat.le_trans (pprim_abs _ j) (bd hg j), by omega, gc_ok (by omega) (by omega) (by omega) (by omega) ?_, ?_⟩)
  · have := dvq_plen (Dvq.comb (dv f) (dv g) c) (by omega)
    omega
  · refine Nat.lt_of_le_of_lt (Nat.pow_le_pow_right (by decide) (show max 2 (plen (polymul f h) + plen (polymul g h) - 2 - 2 * (plen h - 1)) ≤ 8 by omega)) (by rw [BB_eq]; decide +kernel)
  · rw [pconts_two]
    have h2 : pcont (polymul g h) ≤ 10 * (4294967296 * 4294967296) := pcont_le (by omega) (bd hg)
    exact Nat.le_trans (gcd_le_r (pcont_ne (by omega)) h2) (by omega)
theorem Few5.trim {f : List Int} (h : Few5 f) : Few5 (ptrim f) := ⟨by rw [plen_ptrim]; exact h.1, fun j => by rw [ptrim_getD]; exact h.2 j⟩

theorem mul_bd {f h : List Int} {X Y : Nat} (lf : plen f ≤ 5) (lh : plen h ≤ 5) (hX : ∀ j, (f.getD j 0).natAbs ≤ X) (hY : ∀ j, (h.getD j 0).natAbs ≤ Y) (j : Nat) : ((polymul f h).getD j 0).natAbs ≤ 10 * (X * Y) := by
  rw [polymul_getD]
  by_cases hj : j + 1 ≤ 10
  · exact Nat.le_trans (pcs_bd' hX hY j (j + 1)) (Nat.mul_le_mul_right _ hj)
  · rw [pc_above (a := 4) (b := 4) (fun i hi => getD_ge_plen f i (by omega)) (fun i hi => getD_ge_plen h i (by omega)) (by omega)]; simp
theorem small_mul {f h : List Int} (hf : Few5 f) (hh : Few5 h) : FitP (polymul f h) := fun j => Nat.lt_of_le_of_lt (mul_bd hf.1 hh.1 hf.2 hh.2 j) (by rw [BB_eq]; decide +kernel)
theorem mul_len {f h : List Int} (lf : f.length ≤ 5) (lh : h.length ≤ 5) : (polymul f h).length ≤ 10 := by
  unfold polymul pmul
  split
  · simp
  · rw [List.length_map, List.length_range]; omega
theorem small_mul_len {f h : List Int} (hf : Few5 f) (hh : Few5 h) : (polymul (ptrim f) (ptrim h)).length ≤ 10 := mul_len (by rw [ptrim_length]; exact hf.1) (by rw [ptrim_length]; exact hh.1)
theorem ds_mul {d h : List Int} (hd : DS d) (hh : Few5 h) : FitP (polymul d h) := fun j => Nat.lt_of_le_of_lt (mul_bd hd.l hh.1 hd.b hh.2 j) (by rw [BB_eq]; decide +kernel)
theorem ds_mul_len {d h : List Int} (hd : DS d) (hh : Few5 h) : (polymul d (ptrim h)).length ≤ 10 := mul_len (by rw [← hd.t, ptrim_length]; exact hd.l) (by rw [ptrim_length]; exact hh.1)
theorem ppos_len (W : List Int) : (ppos W).length ≤ W.length := by
  rw [← ppos_trim, ptrim_length, ppos_plen]; exact plen_le W
theorem gres_any_ds {d h : List Int} (hd : DS d) (hh : Few5 h) : SmP (gres d h) ∧ (gres d h).length ≤ 5 := by
  unfold gres
  split
  · exact ⟨hh.ds.fit.smp, by rw [← hh.ds.t, ptrim_length]; exact hh.ds.l⟩
  · rename_i d0
    split
    · refine ⟨?_, by rw [← ppos_trim, ptrim_length, ppos_plen]; exact hd.l⟩
      refine FitP.smp fun k => ?_
      have hk := hd.fit k
      unfold Fit at hk ⊢
      rcases ppos_or d with ⟨h1, _⟩ | ⟨h1, _⟩
      · rw [h1]; exact hk
      · rw [h1, Int.natAbs_neg]; exact hk
    · rename_i h0
      obtain ⟨h1, _, _, h4, _⟩ := (ds_gc hd hh d0 h0).all
      have hl : plen (gval d h) ≤ plen d := dvq_plen h1.l d0
      have hl2 := hd.l
      have hD0 : plen (gval d h) ≠ 0 := fun e => by have := plead_zero.2 e; have := h1.lead; omega
      refine ⟨fun c hc => ?_, by rw [← h1.trim, ptrim_length]; omega⟩
      obtain ⟨j, hj⟩ := List.getElem?_of_mem hc
      have e : c = (gval d h).getD j 0 := by rw [List.getD_eq_getElem?_getD, hj]; rfl
      have hcont : pcont (gval d h) ≤ 4294967296 := by rw [h1.cont]; exact gcd_le_r (pcont_ne h0) (hh.cont h0)
      have hb : ((gval d h).getD j 0).natAbs ≤ 4294967296 * ((4294967296 * 32) ^ 8 * 32) ^ 10 := by
        rw [gp_get hD0, Int.natAbs_mul, Int.natAbs_mul, Int.natAbs_natCast]
        have h2 : (sg (plead (gval d h))).natAbs ≤ 1 := by rcases sg_cases (plead (gval d h)) with ⟨_, e⟩ | ⟨_, e⟩ | ⟨_, e⟩ <;> rw [e] <;> decide
        refine Nat.mul_le_mul (Nat.le_trans (Nat.mul_le_mul h2 hcont) (by omega)) (Nat.le_trans (h4 j) ?_)
        have hp1 : plen d ≠ 0 := d0
        have l3 := hh.1
        refine Nat.le_trans (Nat.pow_le_pow_left (Nat.mul_le_mul_right 32 (Nat.pow_le_pow_right (by decide) (show max 1 (10 - 2 * plen d) ≤ 8 by omega))) _) (Nat.pow_le_pow_right (by decide) (by omega))
      rw [e]
      exact Nat.le_trans (dlen_le_of_lt (k := 200) (Nat.lt_of_le_of_lt hb (by rw [BB_eq]; decide +kernel))) (by omega)

/-- what the law UnidivCommon asks -/
theorem com_mul {f g h : List Int} (hf : Few5 f) (hg : Few5 g) (hh : Few5 h) : gres (polymul (ptrim f) (ptrim h)) (polymul (ptrim g) (ptrim h)) = ppos (polymul (gres f g) (ptrim h)) :=
  (gres_is (mul_ga hf.trim hg.trim hh.trim)).unique ((gres_is (few_ga hf hg)).trims.mul (h := ptrim h))
theorem com_symm {f g : List Int} (hf : Few5 f) (hg : Few5 g) : gres f g = gres g f := (gres_is (few_ga hf hg)).unique (gres_is (few_ga hg hf)).symm
theorem com_assoc {f g h : List Int} (hf : Few5 f) (hg : Few5 g) (hh : Few5 h) : gres (gres f g) h = gres f (gres g h) :=
  (IsG.assoc (gres_is (few_ga hf hg)) (gres_is (few_ga hg hh)) (gres_is (ds_ga (gres_ds hg hh) hf).symm) (gres_is (ds_ga (gres_ds hf hg) hh))).symm
end Go.Proofs.Ytjoenabcjioncaa
