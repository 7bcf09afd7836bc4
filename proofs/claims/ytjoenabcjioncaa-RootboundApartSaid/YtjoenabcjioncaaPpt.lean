/- The square-free part of polynomials with at most 8 coefficients: it can be computed, its coefficients are bounded, it keeps each rational root. Plain: no program. -/
import Derived.Test.YtjoenabcjioncaaMlt
import Derived.Test.YtjoenabcjioncaaExr
import Derived.Test.YtjoenabcjioncaaGtn
/- The square-free part, plain: the primitive part over its greatest common divisor with its derivative keeps each rational root; two rational roots and the leading coefficient. No program. -/
namespace Go.Proofs.Ytjoenabcjioncaa

/-- a factor up to a constant is a factor, if it is primitive -/
theorem gauss_div {l f r : List Int} {c : Int} (hl : pcont l = 1) (hc : c ≠ 0) (h : ∀ x, c * ev f x = ev l x * ev r x) : ∃ s : List Int, ∀ x, ev f x = ev l x * ev s x := by
  have h1 : ∀ k, (psc c f).getD k 0 = (polymul l r).getD k 0 := ev_inj fun x => by rw [ev_psc, ev_mul, h]
  have h2 : c.natAbs * pcont f = pcont r := by rw [← pcont_psc, pcont_ext (p := psc c f) (q := polymul l r) (fun k => by rw [h1 k]), pcont_mul, hl, Nat.one_mul]
  have h3 : ∀ k, c ∣ r.getD k 0 := fun k => by
    rw [← Int.natAbs_dvd_natAbs]
    exact Nat.dvd_trans ⟨pcont f, h2.symm⟩ (pcont_get r k)
  refine ⟨r.map (·.tdiv c), fun x => ?_⟩
  have h4 : ∀ k, r.getD k 0 = c * (r.map (·.tdiv c)).getD k 0 := fun k => by
    rw [map_tdiv_getD, Int.mul_tdiv_cancel' (h3 k)]
  have h5 : ev r x = c * ev (r.map (·.tdiv c)) x := by rw [← ev_psc]; exact ev_congr (fun k => by rw [psc_get]; exact h4 k) x
  refine Int.eq_of_mul_eq_mul_left hc ?_
  rw [h x, h5]
  grind

section
variable {z q : Int}
/-- the powers of a linear factor -/
def lpow (z q : Int) : Nat → List Int
  | 0 => [1]
  | k + 1 => polymul [-z, q] (lpow z q k)
theorem lin_ev (z q x : Int) : ev [-z, q] x = q * x - z := by rw [ev_cons, ev_const, Int.mul_comm]; omega
theorem lin_plen (hq : 0 < q) (z : Int) : plen [-z, q] = 2 := by
  have h1 : plen [-z, q] ≤ 1 + 1 := by have := plen_le [-z, q]; simpa using this
  exact plen_eq _ 1 h1 (by show q ≠ 0; omega)
theorem lpow_ev (z q x : Int) : ∀ k, ev (lpow z q k) x = (q * x - z) ^ k
  | 0 => by rw [lpow, ev_const, Int.pow_zero]
  | k + 1 => by rw [lpow, ev_mul, lin_ev, lpow_ev z q x k, Int.pow_succ, Int.mul_comm]
theorem lpow_plen (hq : 0 < q) (z : Int) : ∀ k, plen (lpow z q k) = k + 1
  | 0 => plen_eq [1] 0 (by have := plen_le [1]; simpa using this) (by decide)
  | k + 1 => by
    have ih := lpow_plen hq z k
    have := (plen_mul (f := [-z, q]) (g := lpow z q k) (by rw [lin_plen hq]; omega) (by omega)).1
    rw [lpow, this, lin_plen hq, ih]; omega
theorem dv_const (c x : Int) : dv [c] x = 0 := by show ev [] x + x * 0 = 0; rw [ev_nil]; omega
theorem dv_psc {c : Int} {p r : List Int} (h : ∀ x, ev r x = c * ev p x) (x : Int) : dv r x = c * dv p x := by
  rw [dv_mul (p := r) (a := [c]) (b := p) (fun x => by rw [ev_const, h]) x, dv_const, ev_const]; omega
theorem dv_lin (z q x : Int) : dv [-z, q] x = q := by
  show ev [q] x + x * dv [q] x = q
  rw [ev_const, dv_const]; omega
theorem dv_lpow (z q x : Int) : ∀ k, dv (lpow z q (k + 1)) x = ((k : Int) + 1) * q * (q * x - z) ^ k
  | 0 => by
    rw [dv_mul (p := lpow z q 1) (a := [-z, q]) (b := [1]) (fun x => by rw [lpow, ev_mul]; rfl) x, dv_lin, ev_const, dv_const, Int.pow_zero]
    have : ((0 : Nat) : Int) = 0 := rfl
    rw [this]; omega
  | k + 1 => by
    rw [dv_mul (p := lpow z q (k + 2)) (a := [-z, q]) (b := lpow z q (k + 1)) (fun x => by rw [lpow, ev_mul]) x, dv_lin, lin_ev, lpow_ev, dv_lpow z q x k]
    have : ((k + 1 : Nat) : Int) = (k : Int) + 1 := by omega
    rw [this, Int.pow_succ]
    grind
/-- an identity away from the root holds everywhere -/
theorem lin_cancel (hq : 0 < q) {a b : List Int} (h : ∀ x, (q * x - z) * ev a x = (q * x - z) * ev b x) (x : Int) : ev a x = ev b x := by
  have h1 : ∀ k, (polymul [-z, q] (padd a (psc (-1) b))).getD k 0 = ([] : List Int).getD k 0 := ev_inj fun x => by
    rw [ev_mul, lin_ev, ev_padd, ev_psc, ev_nil]
    have := h x
    rw [Int.mul_add, this]; grind
  have h2 : plen (padd a (psc (-1) b)) = 0 := Classical.byContradiction fun hn => by
    have h3 := (plen_mul (f := [-z, q]) (g := padd a (psc (-1) b)) (by rw [lin_plen hq]; omega) (by omega)).1
    have h4 : plen (polymul [-z, q] (padd a (psc (-1) b))) ≤ 0 := plen_le_of fun k _ => by rw [h1 k]; simp
    rw [lin_plen hq] at h3
    omega
  have h5 : ev (padd a (psc (-1) b)) x = 0 := by
    rw [ev_congr (q := []) (fun k => by rw [getD_ge_plen _ k (by omega)]; simp) x, ev_nil]
  rw [ev_padd, ev_psc] at h5
  omega
theorem pow_cancel (hq : 0 < q) {a b : List Int} : ∀ k, (∀ x, (q * x - z) ^ k * ev a x = (q * x - z) ^ k * ev b x) → ∀ x, ev a x = ev b x
  | 0, h, x => by have := h x; simpa using this
  | k + 1, h, x => by
    refine pow_cancel hq k (fun y => ?_) x
    have h1 := lin_cancel (z := z) hq (a := polymul (lpow z q k) a) (b := polymul (lpow z q k) b) (fun y => by
      rw [ev_mul, ev_mul, lpow_ev]
      have := h y
      rw [Int.pow_succ] at this
      grind) y
    rw [ev_mul, ev_mul, lpow_ev] at h1
    exact h1

/-- the quotient by a common divisor with the derivative keeps each root -/
theorem part_root (hq : 0 < q) {p Q g w : List Int} {e : Int} (p0 : plen p ≠ 0) (h : ∀ x, ev p x = ev Q x * ev g x) (he : e ≠ 0) (hw : ∀ x, e * dv p x = ev w x * ev g x) (hr : Rt z q p) : Rt z q Q := by
  refine Classical.byContradiction fun hQ => ?_
  have g0 : plen g ≠ 0 := fun e => by
    have : plen p ≤ 0 := plen_le_of fun k _ => by
      have := ev_inj (p := p) (q := []) (fun x => by rw [h, ev_congr (p := g) (q := []) (fun k => by rw [getD_ge_plen g k (by omega)]; simp) x, ev_nil, Int.mul_zero]) k
      rw [this]; simp
    omega
  have S : ∀ k, ∃ (c : Int) (r : List Int), c ≠ 0 ∧ (∀ x, c * ev g x = (q * x - z) ^ k * ev r x) ∧ Rt z q r := by
    intro k
    induction k with
    | zero => exact ⟨1, g, by decide, fun x => by rw [Int.pow_zero, Int.one_mul], ((Rt.mul hq h).1 hr).resolve_left hQ⟩
    | succ k ih =>
      obtain ⟨c, r, hc, h1, h2⟩ := ih
      obtain ⟨c2, r2, hc2, h3⟩ := Rt.div hq h2
      have h4 : ∀ x, c * c2 * ev g x = (q * x - z) ^ (k + 1) * ev r2 x := fun x => by
        have := h1 x
        have := h3 x
        rw [Int.pow_succ]
        grind
      have hcc : c * c2 ≠ 0 := fun e => by rcases Int.mul_eq_zero.1 e with h | h <;> contradiction
      refine ⟨c * c2, r2, hcc, h4, ?_⟩
      -- the derivative
      obtain ⟨P1, hP1⟩ : ∃ P1, P1 = polymul Q r2 := ⟨_, rfl⟩
      have hP1e : ∀ x, ev P1 x = ev Q x * ev r2 x := fun x => by rw [hP1, ev_mul]
      have d1 : ∀ x, c * c2 * dv p x = dv (lpow z q (k + 1)) x * ev P1 x + (q * x - z) ^ (k + 1) * dv P1 x := fun x => by
        have e1 := dv_psc (c := c * c2) (p := p) (r := psc (c * c2) p) (fun x => ev_psc _ _ x) x
        have e2 := dv_mul (p := psc (c * c2) p) (a := lpow z q (k + 1)) (b := P1) (fun y => by
          rw [ev_psc, h, lpow_ev, hP1e]
          have := h4 y
          grind) x
        rw [lpow_ev] at e2
        rw [← e1, e2]
      have d2 : ∀ x, (q * x - z) ^ k * (e * (((k : Int) + 1) * q) * ev P1 x) = (q * x - z) ^ k * ((q * x - z) * (ev w x * ev r2 x - e * dv P1 x)) := fun x => by
        have e1 := d1 x
        rw [dv_lpow] at e1
        have e2 := hw x
        have e3 := h4 x
        have e4 : e * (c * c2 * dv p x) = ev w x * (c * c2 * ev g x) := by grind
        rw [e1, e3, Int.pow_succ] at e4
        grind
      have hk0 : e * (((k : Int) + 1) * q) ≠ 0 := fun e' => by
        rcases Int.mul_eq_zero.1 e' with h | h
        · exact he h
        · rcases Int.mul_eq_zero.1 h with h | h <;> omega
      have d3 : ∀ x, ev (psc (e * (((k : Int) + 1) * q)) P1) x = ev (polymul [-z, q] (padd (polymul w r2) (psc (-e) (pder P1)))) x := pow_cancel (z := z) hq k fun x => by
        rw [ev_psc, ev_mul, lin_ev, ev_padd, ev_mul, ev_psc, pder_ev]
        have := d2 x
        rw [this]; grind
      have d4 : Rt z q P1 := Rt.of_div hq hk0 (r := padd (polymul w r2) (psc (-e) (pder P1))) fun x => by
        have := d3 x
        rw [ev_psc, ev_mul, lin_ev] at this
        exact this
      exact ((Rt.mul hq hP1e).1 d4).resolve_left hQ
  obtain ⟨c, r, hc, h1, _⟩ := S (plen g)
  have h2 : Dvq (lpow z q (plen g)) g := ⟨c, r, hc, fun x => by rw [h1, lpow_ev, Int.mul_comm]⟩
  have h3 := dvq_plen h2 g0
  rw [lpow_plen hq] at h3
  omega
end

theorem pcont_lin {z q : Int} (h : Nat.gcd z.natAbs q.natAbs = 1) : pcont [-z, q] = 1 := by
  show Nat.gcd (-z).natAbs (Nat.gcd q.natAbs 0) = 1
  rw [Nat.gcd_zero_right, Int.natAbs_neg, h]
/-- two different rational roots in lowest terms: the product of the denominators divides the leading coefficient -/
theorem two_roots {Q : List Int} {z1 q1 z2 q2 : Int} (h1 : 0 < q1) (h2 : 0 < q2) (g1 : Nat.gcd z1.natAbs q1.natAbs = 1) (g2 : Nat.gcd z2.natAbs q2.natAbs = 1) (hne : z1 * q2 ≠ z2 * q1) (Q0 : plen Q ≠ 0) (r1 : Rt z1 q1 Q) (r2 : Rt z2 q2 Q) : q1 * q2 ∣ plead Q ∧ 3 ≤ plen Q := by
  obtain ⟨c, r, hc, e⟩ := Rt.div h1 r1
  obtain ⟨s, hs⟩ := gauss_div (l := [-z1, q1]) (f := Q) (r := r) (pcont_lin g1) hc (fun x => by rw [lin_ev, e])
  have rs : Rt z2 q2 s := by
    refine ((Rt.mul h2 hs).1 r2).resolve_left fun hl => ?_
    rw [Rt.of h2 (f := [-z1, q1]) (n := 1) (by rw [lin_plen h1]; omega)] at hl
    have e : hom z2 q2 [-z1, q1] 1 = -z1 * q2 + q1 * z2 := by
      simp [hom, evn, Int.pow_succ]
    rw [e] at hl
    have e2 : q1 * z2 = z2 * q1 := Int.mul_comm _ _
    have e3 : -z1 * q2 = -(z1 * q2) := Int.neg_mul _ _
    omega
  obtain ⟨c', r', hc', e'⟩ := Rt.div h2 rs
  obtain ⟨t, ht⟩ := gauss_div (l := [-z2, q2]) (f := s) (r := r') (pcont_lin g2) hc' (fun x => by rw [lin_ev, e'])
  have hQ : ∀ k, Q.getD k 0 = (polymul (polymul [-z1, q1] [-z2, q2]) t).getD k 0 := ev_inj fun x => by rw [ev_mul, ev_mul, hs, ht, Int.mul_assoc]
  have hpl : ptrim Q = ptrim (polymul (polymul [-z1, q1] [-z2, q2]) t) := ptrim_ext hQ
  have hp2 := congrArg List.length hpl
  rw [ptrim_length, ptrim_length] at hp2
  have t0 : 1 ≤ plen t := Classical.byContradiction fun hn => Q0 (by rw [hp2, polymul_zero_r (by omega)])
  have m1 := plen_mul (f := [-z1, q1]) (g := [-z2, q2]) (by rw [lin_plen h1]; omega) (by rw [lin_plen h2]; omega)
  rw [lin_plen h1, lin_plen h2] at m1
  have m2 := plen_mul (f := polymul [-z1, q1] [-z2, q2]) (g := t) (by omega) t0
  have l1 : plead [-z1, q1] = q1 := by unfold plead; rw [lin_plen h1]; rfl
  have l2 : plead [-z2, q2] = q2 := by unfold plead; rw [lin_plen h2]; rfl
  rw [m1.2, l1, l2] at m2
  refine ⟨?_, by rw [hp2, m2.1]; omega⟩
  have hl : plead Q = plead (polymul (polymul [-z1, q1] [-z2, q2]) t) := by unfold plead; rw [hp2, hQ]
  rw [hl, m2.2]
  exact ⟨plead t, rfl⟩
end Go.Proofs.Ytjoenabcjioncaa

/- The square-free part of polynomials with at most 8 coefficients: it can be computed, its coefficients are bounded, it keeps each rational root. Plain: no program. -/
namespace Go.Proofs.Ytjoenabcjioncaa

def gokc1 (m n x y : Nat) : Bool := !(decide (n ≤ m) && decide (x ≤ m) && decide (y ≤ n) && decide (1 ≤ y) && decide (y ≤ x)) || decide (max 1 (m + n + 2 - 2 * x) * (x - y) ≤ 22)
theorem gokc_all1 : ((List.range 8).all fun m => (List.range 7).all fun n => (List.range 8).all fun x => (List.range 7).all fun y => gokc1 m n x y) = true := by decide +kernel
def gokc2 (m n x y : Nat) : Bool := !(decide (n ≤ m) && decide (x ≤ m) && decide (y ≤ n) && decide (1 ≤ y) && decide (y ≤ x)) || decide ((m + n - 2 * x) * (x - y - 1) ≤ 22)
theorem gokc_all2 : ((List.range 8).all fun m => (List.range 7).all fun n => (List.range 8).all fun x => (List.range 7).all fun y => gokc2 m n x y) = true := by decide +kernel
def gokc3 (m n y z : Nat) : Bool := !(decide (n ≤ m) && decide (y ≤ n) && decide (z ≤ n) && decide (z < y) && decide (y ≤ m)) || decide ((m + n - 2 * y) * (y - z) ≤ 22)
theorem gokc_all3 : ((List.range 8).all fun m => (List.range 7).all fun n => (List.range 7).all fun y => (List.range 7).all fun z => gokc3 m n y z) = true := by decide +kernel
theorem gok_of7 {G m n : Nat} (hnm : n ≤ m) (hm : m ≤ 7) (hn : n ≤ 6) (hG : 1 ≤ G) (fit : G ^ 22 < BB ^ 40) : GOK G m n 0 22 := by
  refine ⟨fit, hG, by omega, fun x hx y hy h1 h2 => ?_, fun x hx y hy h1 h2 => ?_, fun y hy z hz h1 h2 h3 => ?_, by omega⟩
  · have h := gokc_all1
    simp only [List.all_eq_true, List.mem_range] at h
    have h1 := h m (by omega) n (by omega) x (by omega) y (by omega)
    unfold gokc1 at h1
    rw [decide_eq_true hnm, decide_eq_true hx, decide_eq_true hy, decide_eq_true (show 1 ≤ y by omega), decide_eq_true h2] at h1
    simpa using h1
  · have h := gokc_all2
    simp only [List.all_eq_true, List.mem_range] at h
    have h1 := h m (by omega) n (by omega) x (by omega) y (by omega)
    unfold gokc2 at h1
    rw [decide_eq_true hnm, decide_eq_true hx, decide_eq_true hy, decide_eq_true (show 1 ≤ y by omega), decide_eq_true h2] at h1
    simpa using h1
  · have h := gokc_all3
    simp only [List.all_eq_true, List.mem_range] at h
    have h1 := h m (by omega) n (by omega) y (by omega) z (by omega)
    unfold gokc3 at h1
    rw [decide_eq_true hnm, decide_eq_true hy, decide_eq_true hz, decide_eq_true h2, decide_eq_true h3] at h1
    simpa using h1

theorem ev_inj2 {p a b : List Int} (h : ∀ x, ev p x = ev a x * ev b x) (k : Nat) : p.getD k 0 = pc b a k := by
  rw [← polymul_getD]
  exact ev_inj (fun x => by rw [ev_mul, h, Int.mul_comm]) k
/-- a polynomial with at most 8 coefficients, each at most 2^32 -/
def Few8 (f : List Int) : Prop := plen f ≤ 8 ∧ ∀ j, (f.getD j 0).natAbs ≤ 4294967296
theorem pder_bd {p : List Int} {M : Nat} (hp : plen p ≤ 8) (hM : ∀ j, (p.getD j 0).natAbs ≤ M) (j : Nat) : ((pder p).getD j 0).natAbs ≤ 7 * M := by
  by_cases h : j < plen p - 1
  · rw [pder_get p h, Int.natAbs_mul, Nat.mul_comm]
    exact Nat.mul_le_mul (by omega) (hM (j + 1))
  · rw [getD_out _ (by rw [pder_length]; omega)]; simp
theorem pder_plen_le (p : List Int) : plen (pder p) ≤ plen p - 1 := by have := plen_le (pder p); rw [pder_length] at this; exact this
section
variable {F : List Int}
theorem pp_few (hF : Few8 F) : Few8 (pprim F) := ⟨by rw [gp_plen]; exact hF.1, fun j => Nat.le_trans (pprim_abs F j) (hF.2 j)⟩
theorem der_gc {P : List Int} (hP : Few8 P) (p0 : plen P ≠ 0) (d0 : plen (pder P) ≠ 0) (cP : pcont P = 1) : GC P (pder P) 0 (7 * 4294967296) := by
  have h1 := hP.1
  have h2 := pder_plen_le P
  refine ⟨p0, d0, by omega, by omega, by omega, fun p _ h => by omega, fun j => Nat.le_trans (pprim_abs P j) (Nat.le_trans (hP.2 j) (by omega)), fun j => Nat.le_trans (pprim_abs _ j) (pder_bd h1 hP.2 j), by omega, fun m n h3 h4 h5 h6 => ⟨22, gok_of7 h3 (by omega) (by omega) (by omega) (by rw [BB_eq]; decide +kernel)⟩, ?_⟩
  rw [pconts_two, cP, Nat.gcd_one_left]; omega
theorem der_ga {P : List Int} (hP : Few8 P) (cP : pcont P = 1) : GAny P (pder P) := by
  by_cases p0 : plen P = 0
  · exact .inl p0
  by_cases d0 : plen (pder P) = 0
  · exact .inr (.inl d0)
  exact .inr (.inr ⟨_, _, der_gc hP p0 d0 cP⟩)
/-- the divisor that Part takes out -/
def pdiv (F : List Int) : List Int := gres (pprim F) (pder (pprim F))
/-- the square-free part -/
def ppart (F : List Int) : List Int := pexq (pprim F) (pdiv F)
/-- the bound of its coefficients -/
def PB : Nat := fbb 15 (8 * (4294967296 * 15 ^ 7)) 7
theorem PB_lt : PB < 2 ^ 100 := by decide +kernel
structure PartF (F : List Int) : Prop where
  ga : GAny (pprim F) (pder (pprim F))
  fd : FitP (pdiv F)
  d0 : plen (pdiv F) ≠ 0
  dl : (pdiv F).length ≤ 8
  ok : ExOK 1000000000 (pprim F) (pdiv F)
  prod : ∀ x, ev (pprim F) x = ev (ppart F) x * ev (pdiv F) x
  t : ptrim (ppart F) = ppart F
  q0 : plen (ppart F) ≠ 0
  l : plen (ppart F) ≤ plen F
  b : ∀ j, ((ppart F).getD j 0).natAbs ≤ PB
  root : ∀ (z q : Int), 0 < q → Rt z q F → Rt z q (ppart F)
theorem part_f (hF : Few8 F) (F0 : plen F ≠ 0) : PartF F := by
  have hP := pp_few hF
  have p0 : plen (pprim F) ≠ 0 := by rw [gp_plen]; exact F0
  have cP : pcont (pprim F) = 1 := gp_cont F0
  have ga := der_ga hP cP
  have hF1 := hF.1
  obtain ⟨P, hPe⟩ : ∃ P, P = pprim F := ⟨_, rfl⟩
  obtain ⟨D, hDe⟩ : ∃ D, D = pdiv F := ⟨_, rfl⟩
  have hg := gres_is ga
  have hD2 : gres (pprim F) (pder (pprim F)) = D := hDe.symm
  rw [hD2] at hg
  have hg' : IsGcd (pprim F) (pder (pprim F)) D := hg.resolve_left (fun h => p0 h.1) |>.2
  rw [← hPe] at hg' cP p0 hP ga
  have cD : pcont D = 1 := by rw [hg'.cont, cP, Nat.gcd_one_left]
  have D0 : plen D ≠ 0 := hg'.ne
  have dP : plen D ≤ plen P := dvq_plen hg'.l p0
  have hpP : plen P = plen F := by rw [hPe, gp_plen]
  have bD : ∀ j, (D.getD j 0).natAbs ≤ (7 * 4294967296 * 32) ^ 16 := fun j => by
    have hDP : ((pprim D).getD j 0).natAbs = (D.getD j 0).natAbs := by
      have h1 := gp_get D0 j
      rw [sg_pos hg'.lead, cD] at h1
      have h2 : ((1 : Nat) : Int) = 1 := rfl
      rw [h2, Int.one_mul, Int.one_mul] at h1
      rw [h1]
    have small : ∀ j, (P.getD j 0).natAbs ≤ (7 * 4294967296 * 32) ^ 16 := fun j => Nat.le_trans (hP.2 j) (by decide +kernel)
    by_cases d0 : plen (pder P) = 0
    · have e : D = ppos P := by
        rw [← hD2, ← hPe]
        unfold gres
        rw [if_neg p0, if_pos d0]
      rw [e]
      rcases ppos_or P with ⟨h1, _⟩ | ⟨h1, _⟩
      · rw [h1]; exact small j
      · rw [h1, Int.natAbs_neg]; exact small j
    · have e : D = gval P (pder P) := by
        rw [← hD2, ← hPe]
        unfold gres
        rw [if_neg p0, if_neg d0]
      obtain ⟨_, _, _, h4, _⟩ := (der_gc hP p0 d0 cP).all
      have h5 := h4 j
      rw [← e, hDP] at h5
      have h6 := hP.1
      have h7 := pder_plen_le P
      exact Nat.le_trans h5 (Nat.pow_le_pow_right (by decide) (by omega))
  have fD : FitP D := fun j => Nat.lt_of_le_of_lt (bD j) (by rw [BB_eq]; decide +kernel)
  obtain ⟨c, r, hc, e1⟩ := hg'.l
  obtain ⟨s, hs⟩ := gauss_div (l := D) (f := P) (r := r) cD hc (fun x => by rw [e1, Int.mul_comm])
  obtain ⟨Q, hQ⟩ : ∃ Q, Q = ptrim s := ⟨_, rfl⟩
  have hQs : ∀ x, ev P x = ev D x * ev Q x := fun x => by rw [hQ, ev_trim]; exact hs x
  have tQ : ptrim Q = Q := by rw [hQ, ptrim_ptrim]
  have Q0 : plen Q ≠ 0 := fun e => p0 (by
    have : plen P ≤ 0 := plen_le_of fun k _ => by
      have := ev_inj (p := P) (q := []) (fun x => by rw [hQs, ev_congr (p := Q) (q := []) (fun k => by rw [getD_ge_plen Q k (by omega)]; simp) x, ev_nil, Int.mul_zero]) k
      rw [this]; simp
    omega)
  have bQ : ∀ j, (Q.getD j 0).natAbs ≤ PB := fun j => factor_bd (n := 7) (M := 4294967296) hP.1 p0 hP.2 hQs j
  have fQ : FitP Q := fun j => Nat.lt_of_le_of_lt (bQ j) (Nat.lt_trans PB_lt (by rw [BB_eq]; decide +kernel))
  have hQl : plen Q ≤ plen P := dvq_plen ⟨1, D, by decide, fun x => by rw [Int.one_mul, hQs]⟩ p0
  have hP8 := hP.1
  obtain ⟨x1, x2⟩ := exact_prod (f := P) (g := D) (q := Q) (ev_inj2 hQs) tQ Q0 D0 fQ fD (by omega)
  have hpart : ppart F = Q := by
    unfold ppart
    rw [← hPe, ← hDe]; exact x2
  obtain ⟨c2, w, hc2, e2⟩ := hg'.r
  refine ⟨by rw [← hPe]; exact ga, by rw [← hDe]; exact fD, by rw [← hDe]; exact D0, by rw [← hDe, ← hg'.trim, ptrim_length]; omega, by rw [← hPe, ← hDe]; exact x1, fun x => by rw [hpart, ← hPe, ← hDe, hQs, Int.mul_comm], by rw [hpart]; exact tQ, by rw [hpart]; exact Q0, by rw [hpart, ← hpP]; exact hQl, fun j => by rw [hpart]; exact bQ j, fun z q hq hr => ?_⟩
  rw [hpart]
  have hrP : Rt z q P := by
    have h1 : ∀ x, ev F x = ev [sg (plead F) * (pcont F : Int)] x * ev P x := fun x => by
      rw [ev_const, ← ev_psc]
      exact ev_congr (fun k => by rw [psc_get, hPe]; exact gp_get F0 k) x
    refine ((Rt.mul hq h1).1 hr).resolve_left fun hc => ?_
    rw [Rt.of hq (f := [sg (plead F) * (pcont F : Int)]) (n := 0) (by have := plen_le [sg (plead F) * (pcont F : Int)]; simpa using this)] at hc
    have e : hom z q [sg (plead F) * (pcont F : Int)] 0 = sg (plead F) * (pcont F : Int) := by simp [hom, evn]
    rw [e] at hc
    exact gp_ne F0 hc
  exact part_root (p := P) (Q := Q) (g := D) (w := w) hq p0 (fun x => (hQs x).trans (Int.mul_comm _ _)) hc2 (fun x => by rw [← pder_ev]; exact e2 x) hrP
end
end Go.Proofs.Ytjoenabcjioncaa
