/- The walks of unidiv.Divides and unidiv.Coprime. -/
import Derived.Test.YtgblfpkfapmlnaaGreatGtn
import Derived.Test.YtgblfpkfapmlnaaGreatGcx
import Derived.Test.YtgblfpkfapmlnaaGreatPsB
/- Greatest common divisors of polynomials of up to seven coefficients of two digits: sizes; divisibility. Plain: no program. -/
namespace Go.Proofs.YtgblfpkfapmlnaaGreat

def gokc (m n : Nat) : Bool := (List.range (m + 1)).all fun x => (List.range (n + 1)).all fun y => (decide (1 ≤ y) && decide (y ≤ x) && !(decide (max 1 (m + n + 2 - 2 * x) * (x - y) ≤ 18) && decide ((m + n - 2 * x) * (x - y - 1) ≤ 18))) == false
def gokd (m n : Nat) : Bool := (List.range (n + 1)).all fun y => (List.range (n + 1)).all fun z => (decide (z < y) && !decide ((m + n - 2 * y) * (y - z) ≤ 18)) == false
theorem gokc_all : ((List.range 7).all fun m => (List.range (m + 1)).all fun n => gokc m n && gokd m n) = true := by decide +kernel
theorem gok18 {G m n : Nat} (hnm : n ≤ m) (hm : m ≤ 6) (hG : 1 ≤ G) (fit : G ^ 18 < BB ^ 40) : GOK G m n 0 18 := by
  have h := gokc_all
  simp only [List.all_eq_true, List.mem_range, Bool.and_eq_true] at h
  obtain ⟨h1, h2⟩ := h m (by omega) n (by omega)
  unfold gokc at h1
  unfold gokd at h2
  simp only [List.all_eq_true, List.mem_range] at h1 h2
  refine ⟨fit, hG, by omega, fun x hx y hy h3 h4 => ?_, fun x hx y hy h3 h4 => ?_, fun y hy z hz h3 h4 h5 => ?_, by omega⟩
  · have h5 := h1 x (by omega) y (by omega)
    rw [decide_eq_true (show 1 ≤ y by omega), decide_eq_true h4] at h5
    simp at h5
    exact h5.1
  · have h5 := h1 x (by omega) y (by omega)
    rw [decide_eq_true (show 1 ≤ y by omega), decide_eq_true h4] at h5
    simp at h5
    exact h5.2
  · have h6 := h2 y (by omega) z (by omega)
    rw [decide_eq_true h4] at h6
    simpa using h6

/-- a polynomial of up to seven coefficients of two digits -/
def Few7 (f : List Int) : Prop := plen f ≤ 7 ∧ ∀ j, (f.getD j 0).natAbs ≤ 18446744073709551616
theorem Few7.fit {f : List Int} (h : Few7 f) : FitP f := fun j => Nat.lt_of_le_of_lt (h.2 j) (by rw [BB_eq]; decide +kernel)
theorem Few7.trim {f : List Int} (h : Few7 f) : Few7 (ptrim f) := ⟨by rw [plen_ptrim]; exact h.1, fun j => by rw [ptrim_getD]; exact h.2 j⟩
theorem few7_gc {f g : List Int} (hf : Few7 f) (hg : Few7 g) (f0 : plen f ≠ 0) (g0 : plen g ≠ 0) : GC f g 0 18446744073709551616 := by
  have h1 := hf.1
  have h2 := hg.1
  refine ⟨f0, g0, by omega, by omega, by omega, fun p _ h => by omega, fun j => Nat.le_trans (pprim_abs f j) (hf.2 j), fun j => Nat.le_trans (pprim_abs g j) (hg.2 j), by omega, fun m n hnm _ hm _ => ⟨18, gok18 hnm (by omega) (by omega) (by rw [BB_eq]; decide +kernel)⟩, ?_⟩
  rw [pconts_two]
  exact Nat.le_trans (gcd_le_r (pcont_ne g0) (pcont_le g0 hg.2)) (by omega)
theorem few7_ga {f g : List Int} (hf : Few7 f) (hg : Few7 g) : GAny f g := by
  by_cases f0 : plen f = 0
  · exact .inl f0
  by_cases g0 : plen g = 0
  · exact .inr (.inl g0)
  exact .inr (.inr ⟨_, _, few7_gc hf hg f0 g0⟩)
/-- the size of the value -/
structure DT (d : List Int) : Prop where
  t : ptrim d = d
  l : plen d ≤ 7
  b : ∀ j, (d.getD j 0).natAbs ≤ 18446744073709551616 * (18446744073709551616 * 32) ^ 12
theorem DT.fit {d : List Int} (h : DT d) : FitP d := fun j => Nat.lt_of_le_of_lt (h.b j) (by rw [BB_eq]; decide +kernel)
theorem DT.len {d : List Int} (h : DT d) : d.length ≤ 7 := by have := congrArg List.length h.t; rw [ptrim_length] at this; have := h.l; omega
theorem few7_pos {f : List Int} (h : Few7 f) : DT (ppos f) := by
  refine ⟨ppos_trim f, by rw [ppos_plen]; exact h.1, fun j => Nat.le_trans ?_ (show 18446744073709551616 ≤ 18446744073709551616 * (18446744073709551616 * 32) ^ 12 by decide +kernel)⟩
  rcases ppos_or f with ⟨h1, _⟩ | ⟨h1, _⟩
  · rw [h1]; exact h.2 j
  · rw [h1, Int.natAbs_neg]; exact h.2 j
theorem gres_dt {f g : List Int} (hf : Few7 f) (hg : Few7 g) : DT (gres f g) := by
  unfold gres
  split
  · exact few7_pos hg
  · rename_i f0
    split
    · exact few7_pos hf
    · rename_i g0
      obtain ⟨h1, _, _, h4, _⟩ := (few7_gc hf hg f0 g0).all
      have hl : plen (gval f g) ≤ plen f := dvq_plen h1.l f0
      have h5 := hf.1
      have h6 := hg.1
      refine ⟨h1.trim, by omega, fun j => ?_⟩
      have h0 : plen (gval f g) ≠ 0 := h1.ne
      rw [gp_get h0, Int.natAbs_mul, Int.natAbs_mul, Int.natAbs_natCast]
      refine Nat.mul_le_mul ?_ (Nat.le_trans (h4 j) (Nat.pow_le_pow_right (by decide) (by omega)))
      have h7 : (sg (plead (gval f g))).natAbs ≤ 1 := by rcases sg_cases (plead (gval f g)) with ⟨_, e⟩ | ⟨_, e⟩ | ⟨_, e⟩ <;> rw [e] <;> decide
      have h8 : pcont (gval f g) ≤ 18446744073709551616 := by rw [h1.cont]; exact gcd_le_r (pcont_ne g0) (pcont_le g0 hg.2)
      exact Nat.le_trans (Nat.mul_le_mul h7 h8) (by omega)

/-- divisibility over the rationals, by the remainder -/
theorem psr_nil_iff {f g : List Int} (f0 : plen f ≠ 0) : psr g f = [] ↔ Dvq f g := by
  have hl : plead f ^ (plen g - (plen f - 1)) ≠ 0 := pow_ne (plead_ne f0) _
  constructor
  · intro h
    refine ⟨plead f ^ (plen g - (plen f - 1)), psq g f, hl, fun x => ?_⟩
    rw [ps_ev g f (by omega), h, ev_nil, Int.add_zero]
  · rintro ⟨c, q, hc, e⟩
    have key : ∀ x, ev (psc c (psq g f)) x * ev f x + ev (psc c (psr g f)) x = ev (psc (plead f ^ (plen g - (plen f - 1))) q) x * ev f x + ev [] x := fun x => by
      rw [ev_psc, ev_psc, ev_psc, ev_nil, Int.add_zero]
      have h1 := ps_ev g f (by omega) x
      have h2 : c * ev (psq g f) x * ev f x + c * ev (psr g f) x = c * (ev (psq g f) x * ev f x + ev (psr g f) x) := by rw [Int.mul_add, Int.mul_assoc]
      rw [h2, ← h1]
      have h3 := e x
      calc c * (plead f ^ (plen g - (plen f - 1)) * ev g x) = plead f ^ (plen g - (plen f - 1)) * (c * ev g x) := by ac_rfl
        _ = plead f ^ (plen g - (plen f - 1)) * (ev q x * ev f x) := by rw [h3]
        _ = _ := by rw [Int.mul_assoc]
    have hp := psr_plen g f (by omega)
    have hp2 : plen (psc c (psr g f)) ≤ plen (psr g f) := plen_le_of fun k hk => by rw [psc_get, getD_ge_plen _ k hk, Int.mul_zero]
    have hev : ∀ k, (polymul (padd (psc c (psq g f)) (psc (-1) (psc (plead f ^ (plen g - (plen f - 1))) q))) f).getD k 0 = (psc (-1) (psc c (psr g f))).getD k 0 := ev_inj fun x => by
      have h1 := key x
      rw [ev_nil] at h1
      rw [ev_mul, ev_padd, ev_psc (-1), ev_psc (-1), Int.add_mul]
      have : -1 * ev (psc (plead f ^ (plen g - (plen f - 1))) q) x * ev f x = -(ev (psc (plead f ^ (plen g - (plen f - 1))) q) x * ev f x) := by rw [Int.mul_assoc]; omega
      omega
    have hz : plen (psr g f) = 0 := by
      refine Classical.byContradiction fun hn => ?_
      obtain ⟨D, hD⟩ : ∃ D, D = padd (psc c (psq g f)) (psc (-1) (psc (plead f ^ (plen g - (plen f - 1))) q)) := ⟨_, rfl⟩
      rw [← hD] at hev
      have h2 : plen (psc (-1) (psc c (psr g f))) = plen (psr g f) := by
        have a1 : plen (psc (-1) (psc c (psr g f))) ≤ plen (psr g f) := plen_le_of fun k hk => by rw [psc_get, psc_get, getD_ge_plen _ k hk]; simp
        have a2 : plen (psr g f) ≤ plen (psc (-1) (psc c (psr g f))) := plen_le_of fun k hk => by
          have := getD_ge_plen _ k hk
          rw [psc_get, psc_get] at this
          have h3 : c * (psr g f).getD k 0 = 0 := by omega
          exact (Int.mul_eq_zero.1 h3).resolve_left hc
        omega
      have h3 : plen (polymul D f) = plen (psr g f) := by
        rw [← h2]
        have := congrArg List.length (ptrim_ext hev)
        rw [ptrim_length, ptrim_length] at this
        exact this
      by_cases hD0 : plen D = 0
      · have := polymul_zero_l (f := D) (h := f) hD0
        omega
      · have := (plen_mul (f := D) (g := f) (by omega) (by omega)).1
        omega
    have := Go.Proofs.YtgblfpkfapmlnaaGreat.psr_trim g f
    exact List.eq_nil_of_length_eq_zero (by omega)
/-- f divides g exactly if their greatest common divisor has the degree of f -/
theorem dvq_gcd_iff {f g d : List Int} (f0 : plen f ≠ 0) (h : IsG f g d) : Dvq f g ↔ plen d = plen f := by
  rcases h with ⟨h1, _⟩ | ⟨_, h⟩
  · exact absurd h1 f0
  have hl := dvq_plen h.l f0
  constructor
  · intro hd
    have := dvq_plen (Dvq.comb (Dvq.refl f) hd h.c) h.ne
    omega
  · intro he
    obtain ⟨c, q, hc, e⟩ := h.l
    have hk : ∀ k, (psc c f).getD k 0 = (polymul q d).getD k 0 := ev_inj fun x => by rw [ev_psc, ev_mul, e]
    have hp : plen (psc c f) = plen f := by
      have a1 : plen (psc c f) ≤ plen f := plen_le_of fun k hk => by rw [psc_get, getD_ge_plen _ k hk, Int.mul_zero]
      have a2 : plen f ≤ plen (psc c f) := plen_le_of fun k hk => by
        have := getD_ge_plen _ k hk
        rw [psc_get] at this
        exact (Int.mul_eq_zero.1 this).resolve_left hc
      omega
    have hq : plen (polymul q d) = plen f := by
      rw [← hp]
      have := congrArg List.length (ptrim_ext hk)
      rw [ptrim_length, ptrim_length] at this
      exact this.symm
    have hq0 : plen q ≠ 0 := fun hq0 => by have := polymul_zero_l (f := q) (h := d) hq0; omega
    have hq1 : plen q = 1 := by
      have := (plen_mul (f := q) (g := d) (by omega) (by omega)).1
      omega
    have hqe : ∀ x, ev q x = q.getD 0 0 := fun x => by
      rw [ev_congr (q := [q.getD 0 0]) (fun k => ?_) x, ev_const]
      cases k with
      | zero => simp
      | succ k => rw [getD_ge_plen q (k + 1) (by omega)]; simp
    refine Dvq.trans ⟨q.getD 0 0, [c], plen_lead q 0 (by omega), fun x => ?_⟩ h.r
    rw [ev_const, e, hqe]
end Go.Proofs.YtgblfpkfapmlnaaGreat

/- The walks of unidiv.Divides and unidiv.Coprime. -/
namespace Go.Proofs.YtgblfpkfapmlnaaGreat
open Go.RowKit

set_option maxRecDepth 100000 in
set_option maxHeartbeats 1000000 in
theorem divides_any {I J : IntPred} (hI : IK I) (hJ : IK J) (A : Option Addr) (la ca : Nat) (g : List Int) (B : Option Addr) (lb cb : Nat) (f : List Int) (D : Nat) (w : World) (hg : PolyP I w A la ca g) (hf : PolyP J w B lb cb f) (fd : Dl D f) (fg : FitP g) (hla : la ≤ 1000000) (hlb : lb ≤ 1000000) (hD : D ≤ 1000000000) :
    Calls Tryz.prog 15 #[.slice A la ca, .slice B lb cb] w fun e w' => e = .returned (.bool (if plen g = 0 then decide (plen f = 0) else decide (psr f g = []))) ∧ Below w.heap.size w w' := by
  have hsf : SmP f := fd.smp (by omega)
  have hsg : SmP g := fg.smp
  have Hf := Lib.hid hf
  have Hg := Lib.hid hg
  have Fd := Lib.hid fd
  have Fg := Lib.hid fg
  clear hf hg fd fg
  by_cases g0 : plen g = 0
  · rw [if_pos g0]
    have hneg : ((plen g : Nat) : Int) - 1 < 0 := by omega
    rw [g0] at hneg
    go_enter Tryz.func15, Tryz.ntmps15
    go_wp2_with fail
    refine (degree_any _ _ _ _ _ (Hg.out.at_ hI) hsg (by omega)).mono ?_
    rintro e w1 ⟨rfl, hb1⟩
    have Hf1 := Lib.hid (Hf.out.below hJ hb1)
    have Hb1 := Lib.hid hb1
    rw [g0]
    clear hb1 g0
    go_wp2_with fail
    refine (degree_any _ _ _ _ _ (Hf1.out.at_ hJ) hsf (by omega)).mono ?_
    rintro e w2 ⟨rfl, hb2⟩
    have Hb2 := Lib.hid (Hb1.out.trans (hb2.mono Hb1.out.size))
    have he : decide (((plen f : Nat) : Int) - 1 < 0) = decide (plen f = 0) := by
      rw [decide_eq_decide]; omega
    obtain ⟨z, hz⟩ : ∃ z : Int, z = ((plen f : Nat) : Int) - 1 := ⟨_, rfl⟩
    rw [← hz] at he ⊢
    have He := Lib.hid he
    clear hb2 he hz hneg
    go_wp2
    go_ret
    exact ⟨by rw [He.out]; rfl, Hb2.out⟩
  · rw [if_neg g0]
    obtain ⟨d, hd⟩ : ∃ d, plen g = d + 1 := ⟨plen g - 1, by omega⟩
    have Hd := Lib.hid hd
    have h1 : 1 ≤ plen g := by omega
    have hd0 : ¬ ((d : Int) < 0) := by omega
    clear hd g0
    go_enter Tryz.func15, Tryz.ntmps15
    go_wp2_with fail
    refine (degree_any _ _ _ _ _ (Hg.out.at_ hI) hsg (by omega)).mono ?_
    rintro e w1 ⟨rfl, hb1⟩
    rw [Hd.out, show (((d + 1 : Nat) : Int) - 1) = (d : Int) by omega]
    have Hf1 := Lib.hid (Hf.out.below hJ hb1)
    have Hg1 := Lib.hid (Hg.out.below hI hb1)
    have Hb1 := Lib.hid hb1
    have H1 := Lib.hid h1
    clear hb1 h1
    go_wp2_with fail
    refine (pseudo_any hJ hI _ _ _ f _ _ _ g D _ Hf1.out Hg1.out Fd.out Fg.out H1.out hlb hla hD).mono ?_
    rintro e w2 ⟨A1, l1, c1, A2, l2, c2, rfl, _, h2, hb2⟩
    have hl2 := h2.length
    have Hb2 := Lib.hid (Hb1.out.trans (hb2.mono Hb1.out.size))
    have he : (((l2 : Nat) : Int) == 0) = decide (psr f g = []) := by
      rw [← hl2]
      cases hps : psr f g with
      | nil => simp
      | cons a t => simp; omega
    have He := Lib.hid he
    clear h2 hb2 he hl2
    go_wp2
    go_ret
    exact ⟨by rw [← He.out]; rfl, Hb2.out⟩

set_option maxRecDepth 100000 in
set_option maxHeartbeats 1000000 in
theorem coprime_any {I J : IntPred} (hI : IK I) (hJ : IK J) (A : Option Addr) (la ca : Nat) (f : List Int) (B : Option Addr) (lb cb : Nat) (g : List Int) (w : World) (hf : PolyP I w A la ca f) (hg : PolyP J w B lb cb g) (hsf : SmP f) (hsg : SmP g) (hla : la ≤ 1000000) (hlb : lb ≤ 1000000) (hga : GAny f g) (hsd : SmP (gres f g)) (hld : (gres f g).length ≤ 1000000) :
    Calls Tryz.prog 21 #[.slice A la ca, .slice B lb cb] w fun e w' => e = .returned (.bool (decide (plen (gres f g) = 1))) ∧ Below w.heap.size w w' := by
  have Hga := Lib.hid hga
  clear hga
  go_enter Tryz.func21, Tryz.ntmps21
  go_wp2_with fail
  refine (gcd_any hI hJ _ _ _ f _ _ _ g _ hf hg hsf hsg hla hlb Hga.out).mono ?_
  rintro e w1 ⟨A1, l1, c1, rfl, h1, hb1⟩
  have hl1 := h1.length
  have H1 := Lib.hid h1
  have Hb1 := Lib.hid hb1
  clear h1 hb1 hf hg
  go_wp2_with fail
  refine (degree_any _ _ _ _ _ (H1.out.at_ ikN) hsd (by omega)).mono ?_
  rintro e w2 ⟨rfl, hb2⟩
  have Hb2 := Lib.hid (Hb1.out.trans (hb2.mono Hb1.out.size))
  have he : ((((plen (gres f g) : Nat) : Int) - 1) == 0) = decide (plen (gres f g) = 1) := by
    rw [Bool.eq_iff_iff, beq_iff_eq, decide_eq_true_iff]; omega
  obtain ⟨z, hz⟩ : ∃ z : Int, z = ((plen (gres f g) : Nat) : Int) - 1 := ⟨_, rfl⟩
  rw [← hz] at he ⊢
  have He := Lib.hid he
  clear hb2 he hz hl1
  go_wp2
  go_ret
  exact ⟨by rw [← He.out]; rfl, Hb2.out⟩
end Go.Proofs.YtgblfpkfapmlnaaGreat
