/- What unidiv.Gcd returns, with zeros; sizes for small polynomials, their products and their greatest common divisors. Plain: no program. -/
import Derived.Test.YtgblfpkfapmlnaaGreatGtl
/- When unidiv.Gcd can be computed with the sizes of the contracts, and how large its value is. Plain: no program. -/
namespace Go.Proofs.YtgblfpkfapmlnaaGreat

theorem dvq_plen {f g : List Int} (h : Dvq f g) (hg : plen g ≠ 0) : plen f ≤ plen g := by
  by_cases hf : plen f = 0
  · omega
  obtain ⟨c, q, hc, e⟩ := h
  have h1 : ∀ k, (psc c g).getD k 0 = (polymul q f).getD k 0 := ev_inj fun x => by rw [ev_psc, ev_mul, e]
  have h2 : plen (psc c g) = plen (polymul q f) := by have := congrArg List.length (ptrim_ext h1); rw [ptrim_length, ptrim_length] at this; exact this
  have h3 : plen (psc c g) ≤ plen g := plen_le_of fun k hk => by rw [psc_get, getD_ge_plen g k hk, Int.mul_zero]
  have h4 : plen g ≤ plen (psc c g) := plen_le_of fun k hk => by
    have := getD_ge_plen (psc c g) k hk
    rw [psc_get] at this
    exact (Int.mul_eq_zero.1 this).resolve_left hc
  have hq : 1 ≤ plen q := Classical.byContradiction fun hn => by
    have : plen (polymul q f) = 0 := polymul_zero_l (by omega)
    omega
  have := (plen_mul (f := q) (g := f) hq (by omega)).1
  omega

def gokb1 (m n x y : Nat) : Bool := !(decide (n ≤ m) && decide (x ≤ m) && decide (y ≤ n) && decide (1 ≤ y) && decide (y ≤ x)) || decide (max 1 (m + n + 2 - 2 * x) * (x - y) ≤ max 2 (m + n))
theorem gok_all1 : ((List.range 5).all fun m => (List.range 5).all fun n => (List.range 5).all fun x => (List.range 5).all fun y => gokb1 m n x y) = true := by decide +kernel
theorem gok_tab1 (m : Nat) (hm : m < 5) (n : Nat) (hn : n < 5) (x : Nat) (ha : x < 5) (y : Nat) (hb : y < 5) (c0 : n ≤ m) (c1 : x ≤ m) (c2 : y ≤ n) (c3 : 1 ≤ y) (c4 : y ≤ x) : max 1 (m + n + 2 - 2 * x) * (x - y) ≤ max 2 (m + n) := by
  have h := gok_all1
  simp only [List.all_eq_true, List.mem_range] at h
  have h1 := h m hm n hn x ha y hb
  unfold gokb1 at h1
  rw [decide_eq_true c0, decide_eq_true c1, decide_eq_true c2, decide_eq_true c3, decide_eq_true c4] at h1
  simpa using h1
def gokb2 (m n x y : Nat) : Bool := !(decide (n ≤ m) && decide (x ≤ m) && decide (y ≤ n) && decide (1 ≤ y) && decide (y ≤ x)) || decide ((m + n - 2 * x) * (x - y - 1) ≤ max 2 (m + n))
theorem gok_all2 : ((List.range 5).all fun m => (List.range 5).all fun n => (List.range 5).all fun x => (List.range 5).all fun y => gokb2 m n x y) = true := by decide +kernel
theorem gok_tab2 (m : Nat) (hm : m < 5) (n : Nat) (hn : n < 5) (x : Nat) (ha : x < 5) (y : Nat) (hb : y < 5) (c0 : n ≤ m) (c1 : x ≤ m) (c2 : y ≤ n) (c3 : 1 ≤ y) (c4 : y ≤ x) : (m + n - 2 * x) * (x - y - 1) ≤ max 2 (m + n) := by
  have h := gok_all2
  simp only [List.all_eq_true, List.mem_range] at h
  have h1 := h m hm n hn x ha y hb
  unfold gokb2 at h1
  rw [decide_eq_true c0, decide_eq_true c1, decide_eq_true c2, decide_eq_true c3, decide_eq_true c4] at h1
  simpa using h1
def gokb3 (m n y z : Nat) : Bool := !(decide (n ≤ m) && decide (y ≤ n) && decide (z ≤ n) && decide (z < y) && decide (y ≤ m)) || decide ((m + n - 2 * y) * (y - z) ≤ max 2 (m + n))
theorem gok_all3 : ((List.range 5).all fun m => (List.range 5).all fun n => (List.range 5).all fun y => (List.range 5).all fun z => gokb3 m n y z) = true := by decide +kernel
theorem gok_tab3 (m : Nat) (hm : m < 5) (n : Nat) (hn : n < 5) (y : Nat) (ha : y < 5) (z : Nat) (hb : z < 5) (c0 : n ≤ m) (c1 : y ≤ n) (c2 : z ≤ n) (c3 : z < y) (c4 : y ≤ m) : (m + n - 2 * y) * (y - z) ≤ max 2 (m + n) := by
  have h := gok_all3
  simp only [List.all_eq_true, List.mem_range] at h
  have h1 := h m hm n hn y ha z hb
  unfold gokb3 at h1
  rw [decide_eq_true c0, decide_eq_true c1, decide_eq_true c2, decide_eq_true c3, decide_eq_true c4] at h1
  simpa using h1
theorem gok_of {G m n e : Nat} (he : e ≤ n) (hnm : n ≤ m) (hm : m ≤ e + 4) (he4 : e ≤ 4) (hG : 1 ≤ G) (fit : G ^ (max 2 (m + n - 2 * e)) < BB ^ 40) : GOK G m n e (max 2 (m + n - 2 * e)) := by
  obtain ⟨m', rfl⟩ : ∃ m', m = e + m' := ⟨m - e, by omega⟩
  obtain ⟨n', rfl⟩ : ∃ n', n = e + n' := ⟨n - e, by omega⟩
  have hN : max 2 (e + m' + (e + n') - 2 * e) = max 2 (m' + n') := by omega
  refine ⟨fit, hG, Nat.le_refl _, fun x hx y hy h1 h2 => ?_, fun x hx y hy h1 h2 => ?_, fun y hy z hz h1 h2 h3 => ?_, by omega⟩
  · have := gok_tab1 m' (by omega) n' (by omega) (x - e) (by omega) (y - e) (by omega) (by omega) (by omega) (by omega) (by omega) (by omega)
    rw [hN, show e + m' + (e + n') + 2 - 2 * x = m' + n' + 2 - 2 * (x - e) by omega, show x - y = x - e - (y - e) by omega]
    exact this
  · have := gok_tab2 m' (by omega) n' (by omega) (x - e) (by omega) (y - e) (by omega) (by omega) (by omega) (by omega) (by omega) (by omega)
    rw [hN, show e + m' + (e + n') - 2 * x = m' + n' - 2 * (x - e) by omega, show x - y - 1 = x - e - (y - e) - 1 by omega]
    exact this
  · have := gok_tab3 m' (by omega) n' (by omega) (y - e) (by omega) (z - e) (by omega) (by omega) (by omega) (by omega) (by omega) (by omega)
    rw [hN, show e + m' + (e + n') - 2 * y = m' + n' - 2 * (y - e) by omega, show y - z = y - e - (z - e) by omega]
    exact this

theorem pcs_bd' {f g : List Int} {X Y : Nat} (hf : ∀ j, (f.getD j 0).natAbs ≤ X) (hg : ∀ j, (g.getD j 0).natAbs ≤ Y) (k : Nat) : ∀ m, (pcs f g k m).natAbs ≤ m * (X * Y)
  | 0 => by simp [pcs]
  | m + 1 => by
    rw [pcs]
    have h1 := pcs_bd' hf hg k m
    have h2 : (f.getD m 0 * g.getD (k - m) 0).natAbs ≤ X * Y := by rw [Int.natAbs_mul]; exact Nat.mul_le_mul (hf m) (hg (k - m))
    have h3 := Int.natAbs_add_le (pcs f g k m) (f.getD m 0 * g.getD (k - m) 0)
    rw [Nat.succ_mul]
    omega

theorem pprim_abs (f : List Int) (j : Nat) : ((pprim f).getD j 0).natAbs ≤ (f.getD j 0).natAbs := by
  by_cases h : plen f = 0
  · have : plen (pprim f) = 0 := by rw [gp_plen, h]
    rw [getD_ge_plen (pprim f) j (by omega)]; simp
  · rw [gp_get h j, Int.natAbs_mul]
    exact Nat.le_mul_of_pos_left _ (Int.natAbs_pos.2 (gp_ne h))
theorem pconts_two (f g : List Int) : pconts 0 [f, g] = Nat.gcd (pcont f) (pcont g) := by
  show Nat.gcd (Nat.gcd 0 (pcont f)) (pcont g) = _
  rw [Nat.gcd_zero_left]
theorem pcont_le {f : List Int} (h : plen f ≠ 0) {X : Nat} (hX : ∀ j, (f.getD j 0).natAbs ≤ X) : pcont f ≤ X := by
  have h1 := pcont_get f (plen f - 1)
  have h2 : (f.getD (plen f - 1) 0) ≠ 0 := plead_ne h
  exact Nat.le_trans (Nat.le_of_dvd (Int.natAbs_pos.2 h2) h1) (hX _)

/-- what Gcd wants of two polynomials other than 0: every combination has more than e coefficients, the primitive parts are bounded by S, all sizes are kept -/
structure GC (f g : List Int) (e S : Nat) : Prop where
  f0 : plen f ≠ 0
  g0 : plen g ≠ 0
  sum : plen f + plen g ≤ 34
  fe : e + 1 ≤ plen f
  ge : e + 1 ≤ plen g
  low : ∀ p, Comb f g p → 1 ≤ plen p → e + 1 ≤ plen p
  sf : ∀ j, ((pprim f).getD j 0).natAbs ≤ S
  sg : ∀ j, ((pprim g).getD j 0).natAbs ≤ S
  s1 : 1 ≤ S
  ok : ∀ m n, n ≤ m → e ≤ n → m + 1 ≤ max (plen f) (plen g) → m + n = plen f + plen g - 2 → ∃ N, GOK (S * 32) m n e N
  k : pconts 0 [f, g] ≤ S * 32
theorem gc_ok {p q e S : Nat} (he4 : e ≤ 4) (hp : p ≤ e + 5) (hq : q ≤ e + 5) (h1 : 1 ≤ S) (fit : (S * 32) ^ (max 2 (p + q - 2 - 2 * e)) < BB ^ 40) : ∀ m n, n ≤ m → e ≤ n → m + 1 ≤ max p q → m + n = p + q - 2 → ∃ N, GOK (S * 32) m n e N := fun m n h2 h3 h4 h5 =>
  ⟨_, gok_of h3 h2 (by omega) he4 (by omega) (by rw [h5]; exact fit)⟩

section
variable {f g : List Int} {e S : Nat}
/-- the value -/
def gval (f g : List Int) : List Int := pgcd 20 f g
theorem GC.pair (h : GC f g e S) : ∃ m n, (gpair f g).1.length = m + 1 ∧ (gpair f g).2.length = n + 1 ∧ n ≤ m ∧ e ≤ n ∧ m + 1 ≤ max (plen f) (plen g) ∧ m + n = plen f + plen g - 2 ∧ (∀ j, ((gpair f g).1.getD j 0).natAbs ≤ S) ∧ (∀ j, ((gpair f g).2.getD j 0).natAbs ≤ S) ∧ (∀ p, Comb (gpair f g).1 (gpair f g).2 p → Comb f g p) := by
  have hpl : ∀ p : List Int, (pprim p).length = plen p := fun p => by
    have := congrArg List.length (gp_trim p)
    rw [ptrim_length, gp_plen] at this
    exact this.symm
  have cf : Comb f g (pprim f) := (Comb.left f g).of_dvq ⟨Go.Proofs.YtgblfpkfapmlnaaGreat.sg (plead f) * (pcont f : Int), 1, gp_ne h.f0, fun x => by rw [Int.one_mul, ← ev_psc]; exact ev_congr (fun k => by rw [psc_get, ← gp_get h.f0]) x⟩
  have cg : Comb f g (pprim g) := (Comb.right f g).of_dvq ⟨Go.Proofs.YtgblfpkfapmlnaaGreat.sg (plead g) * (pcont g : Int), 1, gp_ne h.g0, fun x => by rw [Int.one_mul, ← ev_psc]; exact ev_congr (fun k => by rw [psc_get, ← gp_get h.g0]) x⟩
  have h1 := h.fe
  have h2 := h.ge
  have h5 := hpl f
  have h6 := hpl g
  unfold gpair
  split
  · exact ⟨plen g - 1, plen f - 1, by dsimp only; omega, by dsimp only; omega, by omega, by omega, by omega, by omega, h.sg, h.sf, fun p c => cg.trans cf c⟩
  · exact ⟨plen f - 1, plen g - 1, by dsimp only; omega, by dsimp only; omega, by omega, by omega, by omega, by omega, h.sf, h.sg, fun p c => cf.trans cg c⟩
theorem GC.all (h : GC f g e S) : IsGcd f g (gval f g) ∧ rOK 20 ⟨ptrim (gpair f g).1, ptrim (gpair f g).2, -1, (-1) ^ (plen (gpair f g).1 - plen (gpair f g).2 + 1)⟩ ∧
    (∀ p ∈ rseq 20 (gpair f g).1 (gpair f g).2, SmP p ∧ p.length ≤ 1000000 ∧ SmP (pprim p) ∧ SmP (psc (pconts 0 [f, g] : Int) (pprim p))) ∧
    (∀ j, ((pprim (gval f g)).getD j 0).natAbs ≤ (S * 32) ^ (max 1 (plen f + plen g - 2 * plen (gval f g)))) ∧ FitP (pprim f) ∧ FitP (pprim g) ∧ Fit (pconts 0 [f, g] : Int) := by
  obtain ⟨m, n, ha, hb, hmn, hen, hme, hsum, sa, sb, hc⟩ := h.pair
  have hG1 : 1 ≤ S * 32 := by have := h.s1; omega
  have hsm := h.sum
  obtain ⟨N, ok⟩ := h.ok m n hmn hen hme hsum
  have hN := ok.e0
  have hlow : ∀ p, Comb (gpair f g).1 (gpair f g).2 p → 1 ≤ plen p → e + 1 ≤ plen p := fun p c h1 => h.low p (hc p c) h1
  have mul32 : ∀ {z : Nat}, z ≤ S → z * (m + n) ≤ S * 32 := fun hz => Nat.mul_le_mul hz (by omega)
  have hcases : (gpair f g = (pprim g, pprim f)) ∨ (gpair f g = (pprim f, pprim g)) := by unfold gpair; split <;> simp
  have hpl : ∀ p : List Int, plen (pprim p) = (pprim p).length := fun p => by
    have := congrArg List.length (gp_trim p)
    rw [ptrim_length] at this
    exact this
  have ta : plen (gpair f g).1 = (gpair f g).1.length := by rcases hcases with e | e <;> rw [e] <;> exact hpl _
  have tb : plen (gpair f g).2 = (gpair f g).2.length := by rcases hcases with e | e <;> rw [e] <;> exact hpl _
  have e1 : ptrim (gpair f g).1 = (gpair f g).1 := by unfold ptrim; rw [ta, List.take_length]
  have e2 : ptrim (gpair f g).2 = (gpair f g).2 := by unfold ptrim; rw [tb, List.take_length]
  have a0 : ∀ j, ((gpair f g).1.getD j 0).natAbs ≤ S * 32 := fun j => Nat.le_trans (sa j) (by omega)
  have b0 : ∀ j, ((gpair f g).2.getD j 0).natAbs ≤ S * 32 := fun j => Nat.le_trans (sb j) (by omega)
  have hs := sinv_start (e := e) hen ha hb ta tb hmn ok.pos a0 b0
  have gis : IsGcd f g (gval f g) := pgcd_is hen hlow h.f0 h.g0 ha hb hmn ok a0 b0 (fun j => mul32 (sa j)) (fun j => mul32 (sb j)) (by omega)
  have hrok : rOK 20 ⟨(gpair f g).1, (gpair f g).2, -1, (-1) ^ ((gpair f g).1.length - (gpair f g).2.length + 1)⟩ := SInv.rok ok hlow (fun j => mul32 (sa j)) (fun j => mul32 (sb j)) 20 _ _ hs (by dsimp only; omega)
  have els := SInv.els ok hlow (fun j => mul32 (sa j)) (fun j => mul32 (sb j)) 20 _ _ hs
  have eld := SInv.els_deg ok hlow (fun j => mul32 (sa j)) (fun j => mul32 (sb j)) 20 _ _ hs
  have hseq : rseq 20 (gpair f g).1 (gpair f g).2 = (gpair f g).1 :: (gpair f g).2 :: rsq 20 ⟨(gpair f g).1, (gpair f g).2, -1, (-1) ^ ((gpair f g).1.length - (gpair f g).2.length + 1)⟩ := by unfold rseq; rw [e1, e2, ta, tb]
  have hel : ∀ p ∈ rseq 20 (gpair f g).1 (gpair f g).2, (∀ j, (p.getD j 0).natAbs ≤ (S * 32) ^ (m + n + 2)) ∧ p.length ≤ 1000000 ∧ plen p = p.length ∧ 1 ≤ p.length ∧ ∀ j, (p.getD j 0).natAbs ≤ (S * 32) ^ (max 1 (m + n + 2 - 2 * p.length)) := fun p hp => by
    have up : ∀ {z i : Nat}, 1 ≤ i → z ≤ S * 32 → z ≤ (S * 32) ^ i := fun hi hz => Nat.le_trans hz (by calc S * 32 = (S * 32) ^ 1 := (Nat.pow_one _).symm
                                                                                                      _ ≤ _ := Nat.pow_le_pow_right hG1 hi)
    rw [hseq] at hp
    rcases List.mem_cons.1 hp with rfl | hp
    · exact ⟨fun j => up (by omega) (a0 j), by omega, ta, by omega, fun j => up (Nat.le_max_left _ _) (a0 j)⟩
    · rcases List.mem_cons.1 hp with rfl | hp
      · exact ⟨fun j => up (by omega) (b0 j), by omega, tb, by omega, fun j => up (Nat.le_max_left _ _) (b0 j)⟩
      · obtain ⟨h1, h2, h3, h4⟩ := els p hp
        exact ⟨h1, by omega, h3, h4, eld p hp⟩
  have smb : ∀ {p : List Int}, (∀ j, (p.getD j 0).natAbs ≤ (S * 32) ^ (m + n + 3)) → SmP p := fun {p} hp c hc => by
    obtain ⟨j, hj⟩ := List.getElem?_of_mem hc
    have := hp j
    rw [List.getD_eq_getElem?_getD, hj] at this
    exact ok.sm' this (by omega)
  have fitb : ∀ {x : Int}, x.natAbs ≤ S * 32 → Fit x := fun {x} hx => ok.lt (i := 1) (by rw [Nat.pow_one]; exact hx) (by omega)
  refine ⟨gis, by rw [e1, e2, ta, tb]; exact hrok, fun p hp => ?_, fun j => ?_, fun j => fitb (Nat.le_trans (h.sf j) (by omega)), fun j => fitb (Nat.le_trans (h.sg j) (by omega)), fitb (by rw [Int.natAbs_natCast]; exact h.k)⟩
  · obtain ⟨h1, h2, h3, h4, h5⟩ := hel p hp
    have up3 : (S * 32) ^ (m + n + 2) ≤ (S * 32) ^ (m + n + 3) := Nat.pow_le_pow_right hG1 (by omega)
    refine ⟨smb fun j => Nat.le_trans (h1 j) up3, h2, smb fun j => Nat.le_trans (Nat.le_trans (pprim_abs p j) (h1 j)) up3, smb fun j => ?_⟩
    rw [psc_get, Int.natAbs_mul, Int.natAbs_natCast, Nat.pow_succ, Nat.mul_comm]
    exact Nat.mul_le_mul (Nat.le_trans (pprim_abs p j) (h1 j)) h.k
  · obtain ⟨c, c1, _, _⟩ := gcl_spec hen hlow ha hb ta tb hmn ok a0 b0 (fun j => mul32 (sa j)) (fun j => mul32 (sb j)) (k := 20) (by omega)
    obtain ⟨L, hL⟩ : ∃ L, L = gcl 20 (gpair f g).1 (gpair f g).2 := ⟨_, rfl⟩
    rw [← hL] at c c1
    have hmem : L ∈ rseq 20 (gpair f g).1 (gpair f g).2 := by
      rw [hL]
      unfold gcl
      rcases lastOf_or (rseq 20 (gpair f g).1 (gpair f g).2) [] with h1 | ⟨h1, _⟩
      · rw [h1, hseq]
        exact List.mem_cons_of_mem _ (lst_mem _ _)
      · exact h1
    obtain ⟨_, _, l3, _, l5⟩ := hel L hmem
    have hL0 : plen L ≠ 0 := by omega
    have hP : gval f g = ptrim (psc (pconts 0 [f, g] : Int) (pprim L)) := by unfold gval pgcd; rw [hL]
    have hK0 : 0 < (pconts 0 [f, g] : Int) := by
      rw [pconts_two]
      have : Nat.gcd (pcont f) (pcont g) ≠ 0 := fun e => pcont_ne h.f0 (Nat.eq_zero_of_gcd_eq_zero_left e)
      omega
    have hDg : ∀ k, (gval f g).getD k 0 = (pconts 0 [f, g] : Int) * (pprim L).getD k 0 := fun k => by rw [hP, ptrim_getD, psc_get]
    have hpD : plen (gval f g) = plen L := by
      have a1 : plen (gval f g) ≤ plen (pprim L) := plen_le_of fun k hk => by rw [hDg, getD_ge_plen _ k hk, Int.mul_zero]
      have a2 : plen (pprim L) ≤ plen (gval f g) := plen_le_of fun k hk => by
        have := getD_ge_plen (gval f g) k hk
        rw [hDg] at this
        exact (Int.mul_eq_zero.1 this).resolve_left (by omega)
      rw [gp_plen] at a1 a2
      omega
    have hD0 : plen (gval f g) ≠ 0 := by omega
    have hsgn : Go.Proofs.YtgblfpkfapmlnaaGreat.sg (plead (gval f g)) = 1 := sg_pos gis.lead
    have hcD : (pcont (gval f g) : Int) = (pconts 0 [f, g] : Int) := by rw [gis.cont, pconts_two]
    have heq : (pprim (gval f g)).getD j 0 = (pprim L).getD j 0 := by
      have h1 := gp_get hD0 j
      rw [hsgn, Int.one_mul, hcD, hDg j] at h1
      exact (Int.eq_of_mul_eq_mul_left (by omega) h1).symm
    rw [heq, hpD, l3]
    refine Nat.le_trans (Nat.le_trans (pprim_abs L j) (l5 j)) (Nat.pow_le_pow_right hG1 ?_)
    omega
end
end Go.Proofs.YtgblfpkfapmlnaaGreat

/- What unidiv.Gcd returns, with zeros; sizes for small polynomials, their products and their greatest common divisors. Plain: no program. -/
namespace Go.Proofs.YtgblfpkfapmlnaaGreat

/-- unidiv.Gcd can be computed -/
def GAny (f g : List Int) : Prop := plen f = 0 ∨ plen g = 0 ∨ ∃ e S, GC f g e S
/-- its value -/
def gres (f g : List Int) : List Int := if plen f = 0 then ppos g else if plen g = 0 then ppos f else gval f g
theorem ppos_nil {g : List Int} (h : plen g = 0) : ppos g = [] := by
  unfold ppos
  rw [if_neg (by rw [plead_zero.2 h]; omega)]
  exact List.eq_nil_of_length_eq_zero (by rw [ptrim_length, h])
theorem gres_is {f g : List Int} (h : GAny f g) : IsG f g (gres f g) := by
  unfold gres
  split
  · rename_i hf
    by_cases hg : plen g = 0
    · exact .inl ⟨hf, hg, ppos_nil hg⟩
    · exact .inr ⟨fun e => hg e.2, isgcd_zero hf hg⟩
  · rename_i hf
    split
    · rename_i hg
      exact .inr ⟨fun e => hf e.1, (isgcd_zero hg hf).symm⟩
    · rename_i hg
      obtain ⟨e, S, hc⟩ := (h.resolve_left hf).resolve_left hg
      exact .inr ⟨fun e => hf e.1, hc.all.1⟩
theorem IsGcd.congr {f f' g g' D : List Int} (hf : ∀ k, f.getD k 0 = f'.getD k 0) (hg : ∀ k, g.getD k 0 = g'.getD k 0) (h : IsGcd f g D) : IsGcd f' g' D := by
  have ef : ∀ x, ev f x = ev f' x := ev_congr hf
  have eg : ∀ x, ev g x = ev g' x := ev_congr hg
  refine ⟨h.trim, h.lead, by rw [h.cont, pcont_ext (p := f) (q := f') (fun k => by rw [hf k]), pcont_ext (p := g) (q := g') (fun k => by rw [hg k])], ?_, ?_, ?_⟩
  · obtain ⟨c, q, h1, h2⟩ := h.l
    exact ⟨c, q, h1, fun x => by rw [← ef]; exact h2 x⟩
  · obtain ⟨c, q, h1, h2⟩ := h.r
    exact ⟨c, q, h1, fun x => by rw [← eg]; exact h2 x⟩
  · obtain ⟨c, u, v, h1, h2⟩ := h.c
    exact ⟨c, u, v, h1, fun x => by rw [← ef, ← eg]; exact h2 x⟩
theorem IsG.trims {f g D : List Int} (h : IsG f g D) : IsG (ptrim f) (ptrim g) D := by
  unfold IsG
  rw [plen_ptrim, plen_ptrim]
  rcases h with h | ⟨h1, h2⟩
  · exact .inl h
  · exact .inr ⟨h1, h2.congr (fun k => (ptrim_getD f k).symm) (fun k => (ptrim_getD g k).symm)⟩

/-- a small polynomial -/
def Few5 (f : List Int) : Prop := plen f ≤ 5 ∧ ∀ j, (f.getD j 0).natAbs ≤ 4294967296
/-- the size of a greatest common divisor of small polynomials -/
structure DS (d : List Int) : Prop where
  t : ptrim d = d
  l : plen d ≤ 5
  p : ∀ j, ((pprim d).getD j 0).natAbs ≤ (4294967296 * 32) ^ (max 1 (10 - 2 * plen d))
  c : pcont d ≤ 4294967296
theorem DS.b {d : List Int} (h : DS d) (j : Nat) : (d.getD j 0).natAbs ≤ 4294967296 * (4294967296 * 32) ^ 8 := by
  by_cases h0 : plen d = 0
  · rw [getD_ge_plen d j (by omega)]; simp
  · rw [gp_get h0, Int.natAbs_mul, Int.natAbs_mul, Int.natAbs_natCast]
    refine Nat.mul_le_mul ?_ (Nat.le_trans (h.p j) (Nat.pow_le_pow_right (by decide) (by omega)))
    have h1 : (sg (plead d)).natAbs ≤ 1 := by rcases sg_cases (plead d) with ⟨_, e⟩ | ⟨_, e⟩ | ⟨_, e⟩ <;> rw [e] <;> decide
    exact Nat.le_trans (Nat.mul_le_mul h1 h.c) (by omega)
theorem DS.fit {d : List Int} (h : DS d) : FitP d := fun j => Nat.lt_of_le_of_lt (h.b j) (by rw [BB_eq]; decide +kernel)
theorem Few5.fit {f : List Int} (h : Few5 f) : FitP f := fun j => Nat.lt_of_le_of_lt (h.2 j) (by rw [BB_eq]; decide +kernel)
theorem Few5.cont {f : List Int} (h : Few5 f) (h0 : plen f ≠ 0) : pcont f ≤ 4294967296 := pcont_le h0 h.2
theorem Few5.ds {f : List Int} (h : Few5 f) : DS (ppos f) := by
  refine ⟨ppos_trim f, by rw [ppos_plen]; exact h.1, fun j => ?_, ?_⟩
  · refine Nat.le_trans (pprim_abs _ j) ?_
    have h1 : ((ppos f).getD j 0).natAbs ≤ 4294967296 := by
      rcases ppos_or f with ⟨h1, _⟩ | ⟨h1, _⟩
      · rw [h1]; exact h.2 j
      · rw [h1, Int.natAbs_neg]; exact h.2 j
    refine Nat.le_trans h1 (Nat.le_trans (show 4294967296 ≤ (4294967296 * 32) ^ 1 by decide) (Nat.pow_le_pow_right (by decide) (Nat.le_max_left _ _)))
  · rw [ppos_cont]
    by_cases h0 : plen f = 0
    · rw [pcont_zero h0]; omega
    · exact h.cont h0
theorem gcd_le_r {a b X : Nat} (hb : b ≠ 0) (h : b ≤ X) : Nat.gcd a b ≤ X := Nat.le_trans (Nat.gcd_le_right a (by omega)) h
theorem gcd_le_l {a b X : Nat} (ha : a ≠ 0) (h : a ≤ X) : Nat.gcd a b ≤ X := Nat.le_trans (Nat.gcd_le_left b (by omega)) h

theorem few_gc {f g : List Int} (hf : Few5 f) (hg : Few5 g) (f0 : plen f ≠ 0) (g0 : plen g ≠ 0) : GC f g 0 4294967296 := by
  have h1 := hf.1
  have h2 := hg.1
  refine ⟨f0, g0, by omega, by omega, by omega, fun p _ h => by omega, fun j => Nat.le_trans (pprim_abs f j) (hf.2 j), fun j => Nat.le_trans (pprim_abs g j) (hg.2 j), by omega, gc_ok (by omega) (by omega) (by omega) (by omega) ?_, ?_⟩
  · refine Nat.lt_of_le_of_lt (Nat.pow_le_pow_right (by decide) (show max 2 (plen f + plen g - 2 - 2 * 0) ≤ 8 by omega)) (by rw [BB_eq]; decide +kernel)
  · rw [pconts_two]
    exact Nat.le_trans (gcd_le_r (pcont_ne g0) (hg.cont g0)) (by omega)
theorem few_ga {f g : List Int} (hf : Few5 f) (hg : Few5 g) : GAny f g := by
  by_cases f0 : plen f = 0
  · exact .inl f0
  by_cases g0 : plen g = 0
  · exact .inr (.inl g0)
  exact .inr (.inr ⟨_, _, few_gc hf hg f0 g0⟩)
theorem gval_ds {f g : List Int} (hf : Few5 f) (hg : Few5 g) (f0 : plen f ≠ 0) (g0 : plen g ≠ 0) : DS (gval f g) := by
  obtain ⟨h1, _, _, h4, _⟩ := (few_gc hf hg f0 g0).all
  have hl : plen (gval f g) ≤ plen f := dvq_plen h1.l f0
  have h5 := hf.1
  have h6 := hg.1
  refine ⟨h1.trim, by omega, fun j => Nat.le_trans (h4 j) (Nat.pow_le_pow_right (by decide) (by omega)), ?_⟩
  rw [h1.cont]
  exact gcd_le_r (pcont_ne g0) (hg.cont g0)
theorem gres_ds {f g : List Int} (hf : Few5 f) (hg : Few5 g) : DS (gres f g) := by
  unfold gres
  split
  · exact hg.ds
  · rename_i f0
    split
    · exact hf.ds
    · rename_i g0
      exact gval_ds hf hg f0 g0

theorem ds_tab : ∀ p, p < 6 → 1 ≤ p → ((4294967296 * 32) ^ (max 1 (10 - 2 * p)) * 32) ^ (max 2 (p + 3)) < 4294967296 ^ 40 := by decide +kernel
theorem ds_gc {d h : List Int} (hd : DS d) (hh : Few5 h) (d0 : plen d ≠ 0) (h0 : plen h ≠ 0) : GC d h 0 ((4294967296 * 32) ^ (max 1 (10 - 2 * plen d))) := by
  have hl := hd.l
  have hl2 := hh.1
  have h1 : 4294967296 ≤ (4294967296 * 32) ^ (max 1 (10 - 2 * plen d)) := Nat.le_trans (show 4294967296 ≤ (4294967296 * 32) ^ 1 by decide) (Nat.pow_le_pow_right (by decide) (Nat.le_max_left _ _))
  refine ⟨d0, h0, by omega, by omega, by omega, fun p _ h => by omega, hd.p, fun j => Nat.le_trans (Nat.le_trans (pprim_abs h j) (hh.2 j)) h1, by omega, gc_ok (by omega) (by omega) (by omega) (by omega) ?_, ?_⟩
  · rw [BB_eq]
    refine Nat.lt_of_le_of_lt (Nat.pow_le_pow_right (by omega) (show max 2 (plen d + plen h - 2 - 2 * 0) ≤ max 2 (plen d + 3) by omega)) (ds_tab _ (by omega) (by omega))
  · rw [pconts_two]
    exact Nat.le_trans (gcd_le_r (pcont_ne h0) (hh.cont h0)) (by omega)
theorem ds_ga {d h : List Int} (hd : DS d) (hh : Few5 h) : GAny d h := by
  by_cases d0 : plen d = 0
  · exact .inl d0
  by_cases h0 : plen h = 0
  · exact .inr (.inl h0)
  exact .inr (.inr ⟨_, _, ds_gc hd hh d0 h0⟩)
theorem GC.symm {f g : List Int} {e S : Nat} (h : GC f g e S) : GC g f e S := by
  refine ⟨h.g0, h.f0, by have := h.sum; omega, h.ge, h.fe, fun p ⟨c, u, v, h1, h2⟩ hp => h.low p ⟨c, v, u, h1, fun x => by rw [h2, Int.add_comm]⟩ hp, h.sg, h.sf, h.s1, ?_, ?_⟩
  · intro m n h1 h2 h3 h4
    exact h.ok m n h1 h2 (by rw [Nat.max_comm]; exact h3) (by omega)
  · have := h.k
    rw [pconts_two] at this ⊢
    rw [Nat.gcd_comm]; exact this
theorem GAny.symm {f g : List Int} (h : GAny f g) : GAny g f := by
  rcases h with h | h | ⟨e, S, h⟩
  · exact .inr (.inl h)
  · exact .inl h
  · exact .inr (.inr ⟨e, S, h.symm⟩)

/-- the products of small polynomials with one factor in common -/
theorem mul_ga {f g h : List Int} (hf : Few5 f) (hg : Few5 g) (hh : Few5 h) : GAny (polymul f h) (polymul g h) := by
  by_cases f0 : plen f = 0
  · exact .inl (polymul_zero_l f0)
  by_cases g0 : plen g = 0
  · exact .inr (.inl (polymul_zero_l g0))
  by_cases h0 : plen h = 0
  · exact .inl (polymul_zero_r h0)
  have e1 := (plen_mul (f := f) (g := h) (by omega) (by omega)).1
  have e2 := (plen_mul (f := g) (g := h) (by omega) (by omega)).1
  have l1 := hf.1
  have l2 := hg.1
  have l3 := hh.1
  have bd : ∀ {p : List Int}, Few5 p → ∀ j, ((polymul p h).getD j 0).natAbs ≤ 10 * (4294967296 * 4294967296) := fun {p} hp j => by
    rw [polymul_getD]
    by_cases hj : j + 1 ≤ 10
    · exact Nat.le_trans (pcs_bd' hp.2 hh.2 j (j + 1)) (Nat.mul_le_mul_right _ hj)
    · rw [pc_above (a := 4) (b := 4) (fun i hi => getD_ge_plen p i (by have := hp.1; omega)) (fun i hi => getD_ge_plen h i (by omega)) (by omega)]; simp
  have dv : ∀ p : List Int, Dvq h (polymul p h) := fun p => ⟨1, p, by decide, fun x => by rw [Int.one_mul, ev_mul]⟩
  refine .inr (.inr ⟨plen h - 1, 10 * (4294967296 * 4294967296), by omega, by omega, by omega, by omega, by omega, fun p c hp => ?_, fun j => Nat.le_trans (pprim_abs _ j) (bd hf j), fun j => Nat.le_trans (pprim_abs _ j) (bd hg j), by omega, gc_ok (by omega) (by omega) (by omega) (by omega) ?_, ?_⟩)
  · have := dvq_plen (Dvq.comb (dv f) (dv g) c) (by omega)
    omega
  · refine Nat.lt_of_le_of_lt (Nat.pow_le_pow_right (by decide) (show max 2 (plen (polymul f h) + plen (polymul g h) - 2 - 2 * (plen h - 1)) ≤ 8 by omega)) (by rw [BB_eq]; decide +kernel)
  · rw [pconts_two]
    have h2 : pcont (polymul g h) ≤ 10 * (4294967296 * 4294967296) := pcont_le (by omega) (bd hg)
    exact Nat.le_trans (gcd_le_r (pcont_ne (by omega)) h2) (by omega)
theorem Few5.trim {f : List Int} (h : Few5 f) : Few5 (ptrim f) := ⟨by rw [plen_ptrim]; exact h.1, fun j => by rw [ptrim_getD]; exact h.2 j⟩

theorem mul_bd {f h : List Int} {X Y : Nat} (lf : plen f ≤ 5) (lh : plen h ≤ 5) (hX : ∀ j, (f.getD j 0).natAbs ≤ X) (hY : ∀ j, (h.getD j 0).natAbs ≤ Y) (j : Nat) : ((polymul f h).getD j 0).natAbs ≤ 10 * (X * Y) := by
  rw [polymul_getD]
  by_cases hj : j + 1 ≤ 10
  · exact Nat.le_trans (pcs_bd' hX hY j (j + 1)) (Nat.mul_le_mul_right _ hj)
  · rw [pc_above (a := 4) (b := 4) (fun i hi => getD_ge_plen f i (by omega)) (fun i hi => getD_ge_plen h i (by omega)) (by omega)]; simp
theorem small_mul {f h : List Int} (hf : Few5 f) (hh : Few5 h) : FitP (polymul f h) := fun j => Nat.lt_of_le_of_lt (mul_bd hf.1 hh.1 hf.2 hh.2 j) (by rw [BB_eq]; decide +kernel)
theorem mul_len {f h : List Int} (lf : f.length ≤ 5) (lh : h.length ≤ 5) : (polymul f h).length ≤ 10 := by
  unfold polymul pmul
  split
  · simp
  · rw [List.length_map, List.length_range]; omega
theorem small_mul_len {f h : List Int} (hf : Few5 f) (hh : Few5 h) : (polymul (ptrim f) (ptrim h)).length ≤ 10 := mul_len (by rw [ptrim_length]; exact hf.1) (by rw [ptrim_length]; exact hh.1)
theorem ds_mul {d h : List Int} (hd : DS d) (hh : Few5 h) : FitP (polymul d h) := fun j => Nat.lt_of_le_of_lt (mul_bd hd.l hh.1 hd.b hh.2 j) (by rw [BB_eq]; decide +kernel)
theorem ds_mul_len {d h : List Int} (hd : DS d) (hh : Few5 h) : (polymul d (ptrim h)).length ≤ 10 := mul_len (by rw [← hd.t, ptrim_length]; exact hd.l) (by rw [ptrim_length]; exact hh.1)
theorem ppos_len (W : List Int) : (ppos W).length ≤ W.length := by
  rw [← ppos_trim, ptrim_length, ppos_plen]; exact plen_le W
theorem gres_any_ds {d h : List Int} (hd : DS d) (hh : Few5 h) : SmP (gres d h) ∧ (gres d h).length ≤ 5 := by
  unfold gres
  split
  · exact ⟨hh.ds.fit.smp, by rw [← hh.ds.t, ptrim_length]; exact hh.ds.l⟩
  · rename_i d0
    split
    · refine ⟨?_, by rw [← ppos_trim, ptrim_length, ppos_plen]; exact hd.l⟩
      refine FitP.smp fun k => ?_
      have hk := hd.fit k
      unfold Fit at hk ⊢
      rcases ppos_or d with ⟨h1, _⟩ | ⟨h1, _⟩
      · rw [h1]; exact hk
      · rw [h1, Int.natAbs_neg]; exact hk
    · rename_i h0
      obtain ⟨h1, _, _, h4, _⟩ := (ds_gc hd hh d0 h0).all
      have hl : plen (gval d h) ≤ plen d := dvq_plen h1.l d0
      have hl2 := hd.l
      have hD0 : plen (gval d h) ≠ 0 := fun e => by have := plead_zero.2 e; have := h1.lead; omega
      refine ⟨fun c hc => ?_, by rw [← h1.trim, ptrim_length]; omega⟩
      obtain ⟨j, hj⟩ := List.getElem?_of_mem hc
      have e : c = (gval d h).getD j 0 := by rw [List.getD_eq_getElem?_getD, hj]; rfl
      have hcont : pcont (gval d h) ≤ 4294967296 := by rw [h1.cont]; exact gcd_le_r (pcont_ne h0) (hh.cont h0)
      have hb : ((gval d h).getD j 0).natAbs ≤ 4294967296 * ((4294967296 * 32) ^ 8 * 32) ^ 10 := by
        rw [gp_get hD0, Int.natAbs_mul, Int.natAbs_mul, Int.natAbs_natCast]
        have h2 : (sg (plead (gval d h))).natAbs ≤ 1 := by rcases sg_cases (plead (gval d h)) with ⟨_, e⟩ | ⟨_, e⟩ | ⟨_, e⟩ <;> rw [e] <;> decide
        refine Nat.mul_le_mul (Nat.le_trans (Nat.mul_le_mul h2 hcont) (by omega)) (Nat.le_trans (h4 j) ?_)
        have hp1 : plen d ≠ 0 := d0
        have l3 := hh.1
        refine Nat.le_trans (Nat.pow_le_pow_left (Nat.mul_le_mul_right 32 (Nat.pow_le_pow_right (by decide) (show max 1 (10 - 2 * plen d) ≤ 8 by omega))) _) (Nat.pow_le_pow_right (by decide) (by omega))
      rw [e]
      exact Nat.le_trans (dlen_le_of_lt (k := 200) (Nat.lt_of_le_of_lt hb (by rw [BB_eq]; decide +kernel))) (by omega)

/-- what the law UnidivCommon asks -/
theorem com_mul {f g h : List Int} (hf : Few5 f) (hg : Few5 g) (hh : Few5 h) : gres (polymul (ptrim f) (ptrim h)) (polymul (ptrim g) (ptrim h)) = ppos (polymul (gres f g) (ptrim h)) :=
  (gres_is (mul_ga hf.trim hg.trim hh.trim)).unique ((gres_is (few_ga hf hg)).trims.mul (h := ptrim h))
theorem com_symm {f g : List Int} (hf : Few5 f) (hg : Few5 g) : gres f g = gres g f := (gres_is (few_ga hf hg)).unique (gres_is (few_ga hg hf)).symm
theorem com_assoc {f g h : List Int} (hf : Few5 f) (hg : Few5 g) (hh : Few5 h) : gres (gres f g) h = gres f (gres g h) :=
  (IsG.assoc (gres_is (few_ga hf hg)) (gres_is (few_ga hg hh)) (gres_is (ds_ga (gres_ds hg hh) hf).symm) (gres_is (ds_ga (gres_ds hf hg) hh))).symm
end Go.Proofs.YtgblfpkfapmlnaaGreat
