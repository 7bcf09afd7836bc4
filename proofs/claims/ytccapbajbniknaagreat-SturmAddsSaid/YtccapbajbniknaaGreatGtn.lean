/- What unidiv.Gcd returns, with zeros; sizes for small polynomials, their products and their greatest common divisors. Plain: no program. -/
import Derived.Test.YtccapbajbniknaaGreatGtl
/- When unidiv.Gcd can be computed with the sizes of the contracts, and how large its value is. Plain: no program. -/
namespace Go.Proofs.YtccapbajbniknaaGreat

theorem dvq_plen {f g : List Int} (h : Dvq f g) (hg : plen g ≠ 0) : plen f ≤ plen g := by
  by_cases hf : plen f = 0
  · omega
  obtain ⟨c, q, hc, e⟩ := h
  have h1 : ∀ k, (psc c g).getD k 0 = (polymul q f).getD k 0 := ev_inj fun x => by rw [ev_psc, ev_mul, e]
  have h2 : plen (psc c g) = plen (polymul q f) := by have := congrArg List.length (ptrim_ext h1); rw [ptrim_length, ptrim_length] at this; exact this
  have h3 : plen (psc c g) ≤ plen g := plen_le_of fun k hk => by rw [psc_get, getD_ge_plen g k hk, Int.mul_zero]
  have h4 : plen g ≤ plen (psc c g) := plen_le_of fun k hk => by
    have := getD_ge_plen (psc c g) k hk
    rw [psc_get] at this
    exact (Int.mul_eq_zero.1 this).resolve_left hc
  have hq : 1 ≤ plen q := Classical.byContradiction fun hn => by
    have : plen (polymul q f) = 0 := polymul_zero_l (by omega)
    omega
  have := (plen_mul (f := q) (g := f) hq (by omega)).1
  omega

theorem pprim_abs (f : List Int) (j : Nat) : ((pprim f).getD j 0).natAbs ≤ (f.getD j 0).natAbs := by
  by_cases h : plen f = 0
  · have : plen (pprim f) = 0 := by rw [gp_plen, h]
    rw [getD_ge_plen (pprim f) j (by omega)]; simp
  · rw [gp_get h j, Int.natAbs_mul]
    exact Nat.le_mul_of_pos_left _ (Int.natAbs_pos.2 (gp_ne h))
theorem pconts_two (f g : List Int) : pconts 0 [f, g] = Nat.gcd (pcont f) (pcont g) := by
  show Nat.gcd (Nat.gcd 0 (pcont f)) (pcont g) = _
  rw [Nat.gcd_zero_left]
theorem pcont_le {f : List Int} (h : plen f ≠ 0) {X : Nat} (hX : ∀ j, (f.getD j 0).natAbs ≤ X) : pcont f ≤ X := by
  have h1 := pcont_get f (plen f - 1)
  have h2 : (f.getD (plen f - 1) 0) ≠ 0 := plead_ne h
  exact Nat.le_trans (Nat.le_of_dvd (Int.natAbs_pos.2 h2) h1) (hX _)

/-- what Gcd wants of two polynomials other than 0: every combination has more than e coefficients, the primitive parts are bounded by S, all sizes are kept -/
structure GC (f g : List Int) (e S : Nat) : Prop where
  f0 : plen f ≠ 0
  g0 : plen g ≠ 0
  sum : plen f + plen g ≤ 34
  fe : e + 1 ≤ plen f
  ge : e + 1 ≤ plen g
  low : ∀ p, Comb f g p → 1 ≤ plen p → e + 1 ≤ plen p
  sf : ∀ j, ((pprim f).getD j 0).natAbs ≤ S
  sg : ∀ j, ((pprim g).getD j 0).natAbs ≤ S
  s1 : 1 ≤ S
  ok : ∀ m n, n ≤ m → e ≤ n → m + 1 ≤ max (plen f) (plen g) → m + n = plen f + plen g - 2 → ∃ N, GOK (S * 32) m n e N
  k : pconts 0 [f, g] ≤ S * 32
section
variable {f g : List Int} {e S : Nat}
/-- the value -/
def gval (f g : List Int) : List Int := pgcd 20 f g
theorem GC.pair (h : GC f g e S) : ∃ m n, (gpair f g).1.length = m + 1 ∧ (gpair f g).2.length = n + 1 ∧ n ≤ m ∧ e ≤ n ∧ m + 1 ≤ max (plen f) (plen g) ∧ m + n = plen f + plen g - 2 ∧ (∀ j, ((gpair f g).1.getD j 0).natAbs ≤ S) ∧ (∀ j, ((gpair f g).2.getD j 0).natAbs ≤ S) ∧ (∀ p, Comb (gpair f g).1 (gpair f g).2 p → Comb f g p) := by
  have hpl : ∀ p : List Int, (pprim p).length = plen p := fun p => by
    have := congrArg List.length (gp_trim p)
    rw [ptrim_length, gp_plen] at this
    exact this.symm
  have cf : Comb f g (pprim f) := (Comb.left f g).of_dvq ⟨Go.Proofs.YtccapbajbniknaaGreat.sg (plead f) * (pcont f : Int), 1, gp_ne h.f0, fun x => by rw [Int.one_mul, ← ev_psc]; exact ev_congr (fun k => by rw [psc_get, ← gp_get h.f0]) x⟩
  have cg : Comb f g (pprim g) := (Comb.right f g).of_dvq ⟨Go.Proofs.YtccapbajbniknaaGreat.sg (plead g) * (pcont g : Int), 1, gp_ne h.g0, fun x => by rw [Int.one_mul, ← ev_psc]; exact ev_congr (fun k => by rw [psc_get, ← gp_get h.g0]) x⟩
  have h1 := h.fe
  have h2 := h.ge
  have h5 := hpl f
  have h6 := hpl g
  unfold gpair
  split
  · exact ⟨plen g - 1, plen f - 1, by dsimp only; omega, by dsimp only; omega, by omega, by omega, by omega, by omega, h.sg, h.sf, fun p c => cg.trans cf c⟩
  · exact ⟨plen f - 1, plen g - 1, by dsimp only; omega, by dsimp only; omega, by omega, by omega, by omega, by omega, h.sf, h.sg, fun p c => cf.trans cg c⟩
theorem GC.all (h : GC f g e S) : IsGcd f g (gval f g) ∧ rOK 20 ⟨ptrim (gpair f g).1, ptrim (gpair f g).2, -1, (-1) ^ (plen (gpair f g).1 - plen (gpair f g).2 + 1)⟩ ∧
    (∀ p ∈ rseq 20 (gpair f g).1 (gpair f g).2, SmP p ∧ p.length ≤ 1000000 ∧ SmP (pprim p) ∧ SmP (psc (pconts 0 [f, g] : Int) (pprim p))) ∧
    (∀ j, ((pprim (gval f g)).getD j 0).natAbs ≤ (S * 32) ^ (max 1 (plen f + plen g - 2 * plen (gval f g)))) ∧ FitP (pprim f) ∧ FitP (pprim g) ∧ Fit (pconts 0 [f, g] : Int) := by
  obtain ⟨m, n, ha, hb, hmn, hen, hme, hsum, sa, sb, hc⟩ := h.pair
  have hG1 : 1 ≤ S * 32 := by have := h.s1; omega
  have hsm := h.sum
  obtain ⟨N, ok⟩ := h.ok m n hmn hen hme hsum
  have hN := ok.e0
  have hlow : ∀ p, Comb (gpair f g).1 (gpair f g).2 p → 1 ≤ plen p → e + 1 ≤ plen p := fun p c h1 => h.low p (hc p c) h1
  have mul32 : ∀ {z : Nat}, z ≤ S → z * (m + n) ≤ S * 32 := fun hz => Nat.mul_le_mul hz (by omega)
  have hcases : (gpair f g = (pprim g, pprim f)) ∨ (gpair f g = (pprim f, pprim g)) := by unfold gpair; split <;> simp
  have hpl : ∀ p : List Int, plen (pprim p) = (pprim p).length := fun p => by
    have := congrArg List.length (gp_trim p)
    rw [ptrim_length] at this
    exact this
  have ta : plen (gpair f g).1 = (gpair f g).1.length := by rcases hcases with e | e <;> rw [e] <;> exact hpl _
  have tb : plen (gpair f g).2 = (gpair f g).2.length := by rcases hcases with e | e <;> rw [e] <;> exact hpl _
  have e1 : ptrim (gpair f g).1 = (gpair f g).1 := by unfold ptrim; rw [ta, List.take_length]
  have e2 : ptrim (gpair f g).2 = (gpair f g).2 := by unfold ptrim; rw [tb, List.take_length]
  have a0 : ∀ j, ((gpair f g).1.getD j 0).natAbs ≤ S * 32 := fun j => Nat.le_trans (sa j) (by omega)
  have b0 : ∀ j, ((gpair f g).2.getD j 0).natAbs ≤ S * 32 := fun j => Nat.le_trans (sb j) (by omega)
  have hs := sinv_start (e := e) hen ha hb ta tb hmn ok.pos a0 b0
  have gis : IsGcd f g (gval f g) := pgcd_is hen hlow h.f0 h.g0 ha hb hmn ok a0 b0 (fun j => mul32 (sa j)) (fun j => mul32 (sb j)) (by omega)
  have hrok : rOK 20 ⟨(gpair f g).1, (gpair f g).2, -1, (-1) ^ ((gpair f g).1.length - (gpair f g).2.length + 1)⟩ := SInv.rok ok hlow (fun j => mul32 (sa j)) (fun j => mul32 (sb j)) 20 _ _ hs (by dsimp only; omega)
  have els := SInv.els ok hlow (fun j => mul32 (sa j)) (fun j => mul32 (sb j)) 20 _ _ hs
  have eld := SInv.els_deg ok hlow (fun j => mul32 (sa j)) (fun j => mul32 (sb j)) 20 _ _ hs
  have hseq : rseq 20 (gpair f g).1 (gpair f g).2 = (gpair f g).1 :: (gpair f g).2 :: rsq 20 ⟨(gpair f g).1, (gpair f g).2, -1, (-1) ^ ((gpair f g).1.length - (gpair f g).2.length + 1)⟩ := by unfold rseq; rw [e1, e2, ta, tb]
  have hel : ∀ p ∈ rseq 20 (gpair f g).1 (gpair f g).2, (∀ j, (p.getD j 0).natAbs ≤ (S * 32) ^ (m + n + 2)) ∧ p.length ≤ 1000000 ∧ plen p = p.length ∧ 1 ≤ p.length ∧ ∀ j, (p.getD j 0).natAbs ≤ (S * 32) ^ (max 1 (m + n + 2 - 2 * p.length)) := fun p hp => by
    have up : ∀ {z i : Nat}, 1 ≤ i → z ≤ S * 32 → z ≤ (S * 32) ^ i := fun hi hz => Nat.le_trans hz (by calc S * 32 = (S * 32) ^ 1 := (Nat.pow_one _).symm
                                                                                                      _ ≤ _ := Nat.pow_le_pow_right hG1 hi)
    rw [hseq] at hp
    rcases List.mem_cons.1 hp with rfl | hp
    · exact ⟨fun j => up (by omega) (a0 j), by omega, ta, by omega, fun j => up (Nat.le_max_left _ _) (a0 j)⟩
    · rcases List.mem_cons.1 hp with rfl | hp
      · exact ⟨fun j => up (by omega) (b0 j), by omega, tb, by omega, fun j => up (Nat.le_max_left _ _) (b0 j)⟩
      · obtain ⟨h1, h2, h3, h4⟩ := els p hp
        exact ⟨h1, by omega, h3, h4, eld p hp⟩
  have smb : ∀ {p : List Int}, (∀ j, (p.getD j 0).natAbs ≤ (S * 32) ^ (m + n + 3)) → SmP p := fun {p} hp c hc => by
    obtain ⟨j, hj⟩ := List.getElem?_of_mem hc
    have := hp j
    rw [List.getD_eq_getElem?_getD, hj] at this
    exact ok.sm' this (by omega)
  have fitb : ∀ {x : Int}, x.natAbs ≤ S * 32 → Fit x := fun {x} hx => ok.lt (i := 1) (by rw [Nat.pow_one]; exact hx) (by omega)
  refine ⟨gis, by rw [e1, e2, ta, tb]; exact hrok, fun p hp => ?_, fun j => ?_, fun j => fitb (Nat.le_trans (h.sf j) (by omega)), fun j => fitb (Nat.le_trans (h.sg j) (by omega)), fitb (by rw [Int.natAbs_natCast]; exact h.k)⟩
  · obtain ⟨h1, h2, h3, h4, h5⟩ := hel p hp
    have up3 : (S * 32) ^ (m + n + 2) ≤ (S * 32) ^ (m + n + 3) := Nat.pow_le_pow_right hG1 (by omega)
    refine ⟨smb fun j => Nat.le_trans (h1 j) up3, h2, smb fun j => Nat.le_trans (Nat.le_trans (pprim_abs p j) (h1 j)) up3, smb fun j => ?_⟩
    rw [psc_get, Int.natAbs_mul, Int.natAbs_natCast, Nat.pow_succ, Nat.mul_comm]
    exact Nat.mul_le_mul (Nat.le_trans (pprim_abs p j) (h1 j)) h.k
  · obtain ⟨c, c1, _, _⟩ := gcl_spec hen hlow ha hb ta tb hmn ok a0 b0 (fun j => mul32 (sa j)) (fun j => mul32 (sb j)) (k := 20) (by omega)
    obtain ⟨L, hL⟩ : ∃ L, L = gcl 20 (gpair f g).1 (gpair f g).2 := ⟨_, rfl⟩
    rw [← hL] at c c1
    have hmem : L ∈ rseq 20 (gpair f g).1 (gpair f g).2 := by
      rw [hL]
      unfold gcl
      rcases lastOf_or (rseq 20 (gpair f g).1 (gpair f g).2) [] with h1 | ⟨h1, _⟩
      · rw [h1, hseq]
        exact List.mem_cons_of_mem _ (lst_mem _ _)
      · exact h1
    obtain ⟨_, _, l3, _, l5⟩ := hel L hmem
    have hL0 : plen L ≠ 0 := by omega
    have hP : gval f g = ptrim (psc (pconts 0 [f, g] : Int) (pprim L)) := by unfold gval pgcd; rw [hL]
    have hK0 : 0 < (pconts 0 [f, g] : Int) := by
      rw [pconts_two]
      have : Nat.gcd (pcont f) (pcont g) ≠ 0 := fun e => pcont_ne h.f0 (Nat.eq_zero_of_gcd_eq_zero_left e)
      omega
    have hDg : ∀ k, (gval f g).getD k 0 = (pconts 0 [f, g] : Int) * (pprim L).getD k 0 := fun k => by rw [hP, ptrim_getD, psc_get]
    have hpD : plen (gval f g) = plen L := by
      have a1 : plen (gval f g) ≤ plen (pprim L) := plen_le_of fun k hk => by rw [hDg, getD_ge_plen _ k hk, Int.mul_zero]
      have a2 : plen (pprim L) ≤ plen (gval f g) := plen_le_of fun k hk => by
        have := getD_ge_plen (gval f g) k hk
        rw [hDg] at this
        exact (Int.mul_eq_zero.1 this).resolve_left (by omega)
      rw [gp_plen] at a1 a2
      omega
    have hD0 : plen (gval f g) ≠ 0 := by omega
    have hsgn : Go.Proofs.YtccapbajbniknaaGreat.sg (plead (gval f g)) = 1 := sg_pos gis.lead
    have hcD : (pcont (gval f g) : Int) = (pconts 0 [f, g] : Int) := by rw [gis.cont, pconts_two]
    have heq : (pprim (gval f g)).getD j 0 = (pprim L).getD j 0 := by
      have h1 := gp_get hD0 j
      rw [hsgn, Int.one_mul, hcD, hDg j] at h1
      exact (Int.eq_of_mul_eq_mul_left (by omega) h1).symm
    rw [heq, hpD, l3]
    refine Nat.le_trans (Nat.le_trans (pprim_abs L j) (l5 j)) (Nat.pow_le_pow_right hG1 ?_)
    omega
end
end Go.Proofs.YtccapbajbniknaaGreat

/- What unidiv.Gcd returns, with zeros; sizes for small polynomials, their products and their greatest common divisors. Plain: no program. -/
namespace Go.Proofs.YtccapbajbniknaaGreat

/-- unidiv.Gcd can be computed -/
def GAny (f g : List Int) : Prop := plen f = 0 ∨ plen g = 0 ∨ ∃ e S, GC f g e S
/-- its value -/
def gres (f g : List Int) : List Int := if plen f = 0 then ppos g else if plen g = 0 then ppos f else gval f g
theorem ppos_nil {g : List Int} (h : plen g = 0) : ppos g = [] := by
  unfold ppos
  rw [if_neg (by rw [plead_zero.2 h]; omega)]
  exact List.eq_nil_of_length_eq_zero (by rw [ptrim_length, h])
theorem gres_is {f g : List Int} (h : GAny f g) : IsG f g (gres f g) := by
  unfold gres
  split
  · rename_i hf
    by_cases hg : plen g = 0
    · exact .inl ⟨hf, hg, ppos_nil hg⟩
    · exact .inr ⟨fun e => hg e.2, isgcd_zero hf hg⟩
  · rename_i hf
    split
    · rename_i hg
      exact .inr ⟨fun e => hf e.1, (isgcd_zero hg hf).symm⟩
    · rename_i hg
      obtain ⟨e, S, hc⟩ := (h.resolve_left hf).resolve_left hg
      exact .inr ⟨fun e => hf e.1, hc.all.1⟩
theorem IsGcd.congr {f f' g g' D : List Int} (hf : ∀ k, f.getD k 0 = f'.getD k 0) (hg : ∀ k, g.getD k 0 = g'.getD k 0) (h : IsGcd f g D) : IsGcd f' g' D := by
  have ef : ∀ x, ev f x = ev f' x := ev_congr hf
  have eg : ∀ x, ev g x = ev g' x := ev_congr hg
  refine ⟨h.trim, h.lead, by rw [h.cont, pcont_ext (p := f) (q := f') (fun k => by rw [hf k]), pcont_ext (p := g) (q := g') (fun k => by rw [hg k])], ?_, ?_, ?_⟩
  · obtain ⟨c, q, h1, h2⟩ := h.l
    exact ⟨c, q, h1, fun x => by rw [← ef]; exact h2 x⟩
  · obtain ⟨c, q, h1, h2⟩ := h.r
    exact ⟨c, q, h1, fun x => by rw [← eg]; exact h2 x⟩
  · obtain ⟨c, u, v, h1, h2⟩ := h.c
    exact ⟨c, u, v, h1, fun x => by rw [← ef, ← eg]; exact h2 x⟩
/-- a small polynomial -/
def Few5 (f : List Int) : Prop := plen f ≤ 5 ∧ ∀ j, (f.getD j 0).natAbs ≤ 4294967296
/-- the size of a greatest common divisor of small polynomials -/
structure DS (d : List Int) : Prop where
  t : ptrim d = d
  l : plen d ≤ 5
  p : ∀ j, ((pprim d).getD j 0).natAbs ≤ (4294967296 * 32) ^ (max 1 (10 - 2 * plen d))
  c : pcont d ≤ 4294967296
theorem DS.b {d : List Int} (h : DS d) (j : Nat) : (d.getD j 0).natAbs ≤ 4294967296 * (4294967296 * 32) ^ 8 := by
  by_cases h0 : plen d = 0
  · rw [getD_ge_plen d j (by omega)]; simp
  · rw [gp_get h0, Int.natAbs_mul, Int.natAbs_mul, Int.natAbs_natCast]
    refine Nat.mul_le_mul ?_ (Nat.le_trans (h.p j) (Nat.pow_le_pow_right (by decide) (by omega)))
    have h1 : (sg (plead d)).natAbs ≤ 1 := by rcases sg_cases (plead d) with ⟨_, e⟩ | ⟨_, e⟩ | ⟨_, e⟩ <;> rw [e] <;> decide
    exact Nat.le_trans (Nat.mul_le_mul h1 h.c) (by omega)
theorem DS.fit {d : List Int} (h : DS d) : FitP d := fun j => Nat.lt_of_le_of_lt (h.b j) (by rw [BB_eq]; first | decide +kernel | (rw [FW_eq]; decide +kernel))
theorem Few5.fit {f : List Int} (h : Few5 f) : FitP f := fun j => Nat.lt_of_le_of_lt (h.2 j) (by rw [BB_eq]; first | decide +kernel | (rw [FW_eq]; decide +kernel))
theorem Few5.cont {f : List Int} (h : Few5 f) (h0 : plen f ≠ 0) : pcont f ≤ 4294967296 := pcont_le h0 h.2
theorem gcd_le_r {a b X : Nat} (hb : b ≠ 0) (h : b ≤ X) : Nat.gcd a b ≤ X := Nat.le_trans (Nat.gcd_le_right a (by omega)) h
theorem GC.symm {f g : List Int} {e S : Nat} (h : GC f g e S) : GC g f e S := by
  refine ⟨h.g0, h.f0, by have := h.sum; omega, h.ge, h.fe, fun p ⟨c, u, v, h1, h2⟩ hp => h.low p ⟨c, v, u, h1, fun x => by rw [h2, Int.add_comm]⟩ hp, h.sg, h.sf, h.s1, ?_, ?_⟩
  · intro m n h1 h2 h3 h4
    exact h.ok m n h1 h2 (by rw [Nat.max_comm]; exact h3) (by omega)
  · have := h.k
    rw [pconts_two] at this ⊢
    rw [Nat.gcd_comm]; exact this
theorem GAny.symm {f g : List Int} (h : GAny f g) : GAny g f := by
  rcases h with h | h | ⟨e, S, h⟩
  · exact .inr (.inl h)
  · exact .inl h
  · exact .inr (.inr ⟨e, S, h.symm⟩)

theorem Few5.trim {f : List Int} (h : Few5 f) : Few5 (ptrim f) := ⟨by rw [plen_ptrim]; exact h.1, fun j => by rw [ptrim_getD]; exact h.2 j⟩

/-- a factor up to a constant is a factor, if it is primitive -/
theorem gauss_div {l f r : List Int} {c : Int} (hl : pcont l = 1) (hc : c ≠ 0) (h : ∀ x, c * ev f x = ev l x * ev r x) : ∃ s : List Int, ∀ x, ev f x = ev l x * ev s x := by
  have h1 : ∀ k, (psc c f).getD k 0 = (polymul l r).getD k 0 := ev_inj fun x => by rw [ev_psc, ev_mul, h]
  have h2 : c.natAbs * pcont f = pcont r := by rw [← pcont_psc, pcont_ext (p := psc c f) (q := polymul l r) (fun k => by rw [h1 k]), pcont_mul, hl, Nat.one_mul]
  have h3 : ∀ k, c ∣ r.getD k 0 := fun k => by
    rw [← Int.natAbs_dvd_natAbs]
    exact Nat.dvd_trans ⟨pcont f, h2.symm⟩ (pcont_get r k)
  refine ⟨r.map (·.tdiv c), fun x => ?_⟩
  have h4 : ∀ k, r.getD k 0 = c * (r.map (·.tdiv c)).getD k 0 := fun k => by
    rw [map_tdiv_getD, Int.mul_tdiv_cancel' (h3 k)]
  have h5 : ev r x = c * ev (r.map (·.tdiv c)) x := by rw [← ev_psc]; exact ev_congr (fun k => by rw [psc_get]; exact h4 k) x
  refine Int.eq_of_mul_eq_mul_left hc ?_
  rw [h x, h5]
  grind

theorem ev_inj2 {p a b : List Int} (h : ∀ x, ev p x = ev a x * ev b x) (k : Nat) : p.getD k 0 = pc b a k := by
  rw [← polymul_getD]
  exact ev_inj (fun x => by rw [ev_mul, h, Int.mul_comm]) k
end Go.Proofs.YtccapbajbniknaaGreat
