/- The states of the sequence of subresultants for two small polynomials: what a reference that walks along needs. Plain: no program. -/
import Derived.Test.YtgblfpkfapmlnaaGreatLsp
import Derived.Test.YtgblfpkfapmlnaaGreatBto
namespace Go.Proofs.YtgblfpkfapmlnaaGreat

/-- what is known at a state -/
structure QS (t : RS) : Prop where
  ta : ptrim t.a = t.a
  tb : ptrim t.b = t.b
  b1 : 1 ≤ t.b.length
  fa : FitP t.a
  fb : FitP t.b
  la : t.a.length ≤ 7
  lb : t.b.length ≤ t.a.length
def QSt (t : RS) : Prop := ∃ f g m n G C, GOK G m n 0 18 ∧ (∀ k, (f.getD k 0).natAbs * (m + n) ≤ G) ∧ (∀ k, (g.getD k 0).natAbs * (m + n) ≤ G) ∧ SInv f g m n G 0 t C ∧ G ^ (m + n + 2) < BB ^ 40 ∧ 1 ≤ G ∧ m ≤ 6 ∧ n ≤ 6
theorem trim_len {p : List Int} (h : plen p = p.length) : ptrim p = p := by
  unfold ptrim
  rw [h, List.take_length]
theorem QSt.facts {t : RS} (h : QSt t) : QS t := by
  obtain ⟨f, g, m, n, G, C, ok, am, bm, hs, hG, hG1, hm, hn⟩ := h
  have h1 := hs.la
  have h2 := hs.lb
  refine ⟨trim_len hs.ta, trim_len hs.tb, hs.b0, fun k => Nat.lt_of_le_of_lt (hs.ab k) hG, fun k => Nat.lt_of_le_of_lt (Nat.le_trans (hs.bs k) (Nat.pow_le_pow_right hG1 ?_)) hG, by omega, h2⟩
  rw [Nat.max_le]
  omega
theorem QSt.step {t : RS} (h : QSt t) (hr : psr t.a t.b ≠ []) : t.goes ∧ QSt t.next ∧ t.rest.length < t.b.length := by
  obtain ⟨f, g, m, n, G, C, ok, am, bm, hs, hG, hG1, hm, hn⟩ := h
  obtain ⟨h1, h2, h3⟩ := hs.step ok (fun p _ h => by omega) am bm hr
  exact ⟨h1, ⟨f, g, m, n, G, _, ok, am, bm, h2, hG, hG1, hm, hn⟩, h3⟩
theorem QSt.start {f g : List Int} (hf : Few7 f) (hg : Few7 g) (g0 : plen g ≠ 0) (hfg : plen g ≤ plen f) : QSt ⟨ptrim f, ptrim g, -1, (-1) ^ (plen f - plen g + 1)⟩ := by
  have h1 := hf.1
  have h2 := hg.1
  obtain ⟨m, hm⟩ : ∃ m, plen f = m + 1 := ⟨plen f - 1, by omega⟩
  obtain ⟨n, hn⟩ : ∃ n, plen g = n + 1 := ⟨plen g - 1, by omega⟩
  obtain ⟨G, hG⟩ : ∃ G, G = 18446744073709551616 * 32 := ⟨_, rfl⟩
  have hG1 : 1 ≤ G := by omega
  have ok : GOK G m n 0 18 := gok18 (by omega) (by omega) hG1 (by rw [hG, BB_eq]; decide +kernel)
  have a0 : ∀ k, ((ptrim f).getD k 0).natAbs ≤ G := fun k => by rw [ptrim_getD]; have := hf.2 k; omega
  have b0 : ∀ k, ((ptrim g).getD k 0).natAbs ≤ G := fun k => by rw [ptrim_getD]; have := hg.2 k; omega
  have am : ∀ k, ((ptrim f).getD k 0).natAbs * (m + n) ≤ G := fun k => by rw [ptrim_getD, hG]; exact Nat.mul_le_mul (hf.2 k) (by omega)
  have bm : ∀ k, ((ptrim g).getD k 0).natAbs * (m + n) ≤ G := fun k => by rw [ptrim_getD, hG]; exact Nat.mul_le_mul (hg.2 k) (by omega)
  have hs := sinv_start (f := ptrim f) (g := ptrim g) (m := m) (n := n) (G := G) (e := 0) (Nat.zero_le _) (by rw [ptrim_length]; exact hm) (by rw [ptrim_length]; exact hn) (by rw [plen_ptrim, ptrim_length]) (by rw [plen_ptrim, ptrim_length]) (by omega) hG1 a0 b0
  rw [ptrim_length, ptrim_length] at hs
  refine ⟨_, _, m, n, G, _, ok, am, bm, hs, ?_, hG1, by omega, by omega⟩
  refine Nat.lt_of_le_of_lt (Nat.pow_le_pow_right hG1 (show m + n + 2 ≤ 14 by omega)) ?_
  rw [hG, BB_eq]; decide +kernel
theorem QS.pl {t : RS} (h : QS t) : plen t.b = t.b.length ∧ plen t.a = t.a.length := by
  have h1 := congrArg List.length h.ta
  have h2 := congrArg List.length h.tb
  rw [ptrim_length] at h1 h2
  exact ⟨h2, h1⟩
/-- the reference divides without a trim -/
theorem QSt.rest (t : RS) : t.rest = (psr t.a t.b).map (·.tdiv t.dv) := by
  unfold RS.rest
  rw [trim_len (psr_trim t.a t.b)]
theorem rsq_nil {k : Nat} {t : RS} (h : psr t.a t.b = []) : rsq k t = [] := by
  cases k with
  | zero => rfl
  | succ k => rw [rsq, if_pos h]
theorem rsq_cons {k : Nat} {t : RS} (h : psr t.a t.b ≠ []) (hk : 1 ≤ k) : rsq k t = t.rest :: rsq (k - 1) t.next := by
  obtain ⟨j, rfl⟩ : ∃ j, k = j + 1 := ⟨k - 1, by omega⟩
  rw [rsq, if_neg h]; rfl
def E40 : Nat := 1280
theorem e40 : E40 = 1280 := rfl
theorem fit_pow {z : Int} (h : Fit z) : z.natAbs ≤ 2 ^ E40 := Nat.le_trans (Nat.le_of_lt h) (by rw [BB_eq]; decide +kernel)
/-- powers of a number that fits -/
theorem fit_pows {z : Int} (h : Fit z) (k : Nat) : (z ^ k).natAbs ≤ 2 ^ (E40 * k) := by
  rw [Int.natAbs_pow, Nat.pow_mul]
  exact Nat.pow_le_pow_left (fit_pow h) k
/-- where the reference stands with its numbers before and psi -/
def PsiAt (i dd : Nat) (psi : Int) (t : RS) : Prop := (i = 1 ∧ psi = t.s ∧ psi = -1 ∧ t.dv = (-1) ^ (t.d + 1)) ∨ (2 ≤ i ∧ ∃ t0, t = t0.next ∧ psi = t0.s ∧ dd = t0.d ∧ t0.goes ∧ QSt t0)
theorem fitp_bd {p : List Int} (h : FitP p) : Bd (2 ^ E40) p := fun j => fit_pow (h j)
theorem psr_bits {x y : List Int} (hx : ptrim x = x) (hy : ptrim y = y) (y0 : 1 ≤ plen y) (bx : FitP x) (by' : FitP y) (lx : x.length ≤ 7) : ZB 400000 (psr x y) := by
  have h1 := rrun_ps (f := x) (g := y) y0
  rw [hx, hy] at h1
  have h2 := (rrun_bd (d := plen y - 1) (K := plen x - plen y) (fitp_bd by') (fitp_bd bx) (by decide +kernel) (plen x + 1 - plen y)).2
  rw [h1] at h2
  have h3 := plen_le x
  exact h2.zb (pow_room (E := E40) (Nat.le_refl _) (by decide) (by omega)).1
theorem next_dv (t : RS) : t.next.dv = -(plead t.next.a) * t.next.s ^ (t.next.a.length - t.next.b.length) := rfl
theorem next_s (t : RS) : t.next.s = if 0 < t.d then ((-(plead t.next.a)) ^ t.d).tdiv (t.s ^ (t.d - 1)) else t.s := rfl
theorem dv_bits {i dd : Nat} {psi : Int} {t : RS} (h : QSt t) (hp : PsiAt i dd psi t) : bln t.dv.natAbs ≤ 400000 := by
  have hq := h.facts
  rcases hp with ⟨_, _, _, h1⟩ | ⟨_, t0, rfl, _, _, hg, _⟩
  · rw [h1, Int.natAbs_pow]
    exact Nat.le_trans (bln_mono (show _ ≤ 1 by rw [show (-1 : Int).natAbs = 1 from rfl, Nat.one_pow]; exact Nat.le_refl _)) (by decide +kernel)
  · rw [next_dv, Int.natAbs_mul, Int.natAbs_neg]
    have h1 := fit_pow (hq.fa (plen t0.next.a - 1))
    have h2 := fit_pows (show Fit t0.next.s from hg.sf') (t0.next.a.length - t0.next.b.length)
    have h3 := hq.la
    have h4 : E40 * (t0.next.a.length - t0.next.b.length) ≤ 1280 * 7 := Nat.mul_le_mul (Nat.le_of_eq e40) (by omega)
    have h6 := Nat.mul_le_mul h1 h2
    rw [← Nat.pow_add] at h6
    have h5 := bln_pow h6
    exact Nat.le_trans h5 (by have := e40; omega)
end Go.Proofs.YtgblfpkfapmlnaaGreat
