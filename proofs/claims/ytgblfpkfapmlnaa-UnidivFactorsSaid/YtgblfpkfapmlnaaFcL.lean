/- The walk of the law UnidivFactors: it answers true, and only makes new memory. -/
import Derived.Test.YtgblfpkfapmlnaaFew
import Derived.Test.YtgblfpkfapmlnaaDvc
import Derived.Test.YtgblfpkfapmlnaaExh
import Derived.Test.YtgblfpkfapmlnaaZgc
namespace Go.Proofs.Ytgblfpkfapmlnaa
open Go.RowKit

/-- a primitive divisor over the rationals leaves an integer quotient -/
theorem exgood_prim {f g : List Int} (f0 : plen f ≠ 0) : ExGood g (pprim f) ↔ Dvq f g := by
  have p0 : plen (pprim f) ≠ 0 := by rw [gp_plen]; exact f0
  constructor
  · intro h
    obtain ⟨q, hq⟩ := (exgood_iff p0).1 h
    exact (dvq_prim_r f0).trans ⟨1, q, by decide, fun x => by rw [Int.one_mul]; exact hq x⟩
  · intro h
    obtain ⟨c, q, hc, e⟩ := (dvq_prim_l f0).trans h
    have hk : ∀ k, (psc c g).getD k 0 = (polymul q (pprim f)).getD k 0 := ev_inj fun x => by rw [ev_psc, ev_mul, e]
    have h1 : c.natAbs ∣ pcont q := by
      have h2 : pcont (psc c g) = pcont (polymul q (pprim f)) := pcont_ext fun k => by rw [hk]
      rw [pcont_psc, pcont_mul, gp_cont f0, Nat.mul_one] at h2
      exact ⟨pcont g, h2.symm⟩
    have hdv : ∀ k, c ∣ q.getD k 0 := fun k => Int.natAbs_dvd_natAbs.1 (Nat.dvd_trans h1 (pcont_get q k))
    refine (exgood_iff p0).2 ⟨q.map (·.tdiv c), fun x => ?_⟩
    have hq : ∀ y, ev q y = c * ev (q.map (·.tdiv c)) y := fun y => by
      rw [← ev_psc]
      exact ev_congr (fun k => by rw [psc_get, map_tdiv_getD]; exact (Int.mul_tdiv_cancel' (hdv k)).symm) y
    have h3 := e x
    rw [hq, Int.mul_assoc] at h3
    exact Int.eq_of_mul_eq_mul_left hc h3

set_option maxRecDepth 100000 in
set_option maxHeartbeats 8000000 in
theorem law_factors (A : Option Addr) (la ca : Nat) (f : List Int) (B : Option Addr) (lb cb : Nat) (g : List Int) (w : World) (hf : PolyP IntR w A la ca f) (hg : PolyP IntR w B lb cb g) :
    Calls Try.prog 7 #[.slice A la ca, .slice B lb cb] w fun e w' => e = .returned (.bool true) ∧ Below w.heap.size w w' := by
  go_enter Try.func7, Try.ntmps7
  go_wp2_with fail
  refine (awake9_any _).mono ?_
  rintro e w1 ⟨rfl, hb1⟩
  have hf1 := PolyR.below hf hb1
  have hg1 := PolyR.below hg hb1
  have Hb1 := Lib.hid hb1
  clear hf hg hb1
  go_wp2_with fail
  refine (few_any 6 1 _ _ _ _ _ _ _ _ _ hf1 hg1 (by omega) (by omega)).mono ?_
  rintro e w2 ⟨⟨b, rfl, hq⟩, rfl⟩
  clear hf1 hg1
  cases b with
  | false =>
    clear hq
    go_wp2_with fail
    refine (awake9_any _).mono ?_
    rintro e w3 ⟨rfl, hb3⟩
    have Hb3 := Lib.hid (Hb1.out.trans (hb3.mono Hb1.out.size))
    clear hb3 Hb1
    go_wp2
    go_ret
    exact ⟨rfl, Hb3.out⟩
  | true =>
    obtain ⟨qf, qg⟩ := hq rfl
    have hla := qf.le
    have hlb := qg.le
    have hf2 := qf.at_
    have hg2 := qg.at_
    have lf : f.length = la := hf2.length
    have lg : g.length = lb := hg2.length
    have hpf := plen_le f
    have hpg := plen_le g
    have bf : ∀ j, (f.getD j 0).natAbs ≤ 4294967296 := fun j => by have := qf.lt j; rw [Nat.pow_one, BB_eq] at this; omega
    have bg : ∀ j, (g.getD j 0).natAbs ≤ 4294967296 := fun j => by have := qg.lt j; rw [Nat.pow_one, BB_eq] at this; omega
    have f7 : Few7 f := ⟨by omega, fun j => by have := bf j; omega⟩
    have g7 : Few7 g := ⟨by omega, fun j => by have := bg j; omega⟩
    have F7 := Lib.hid f7
    have G7 := Lib.hid g7
    have Bf := Lib.hid bf
    have Bg := Lib.hid bg
    have HF := Lib.hid hf2
    have HG := Lib.hid hg2
    have pfb : plen f ≤ 6 := by omega
    have pgb : plen g ≤ 6 := by omega
    have Dg := Lib.hid (show Dl 2 g from fun j => Nat.le_trans (dlen_le_of_lt (qg.lt j)) (by decide))
    have HD := Lib.hid (gres_dt f7 g7)
    have Hcl := Lib.hid (gres_is (few7_ga f7 g7))
    clear hq qf qg hf2 hg2 lf lg hpf hpg bf bg f7 g7
    go_wp2_with fail
    refine (gcd_any ikAt ikAt _ _ _ f _ _ _ g _ HF.out HG.out F7.out.fit.smp G7.out.fit.smp (by omega) (by omega) (few7_ga F7.out G7.out)).mono ?_
    rintro e w3 ⟨A3, l3, c3, rfl, h3, hb3⟩
    have hl3 : l3 ≤ 7 := by rw [← h3.length]; exact HD.out.len
    have H3 := Lib.hid h3
    have HF3 := Lib.hid (HF.out.below ikAt hb3)
    have HG3 := Lib.hid (HG.out.below ikAt hb3)
    have Hb3 := Lib.hid (Hb1.out.trans (hb3.mono Hb1.out.size))
    clear h3 hb3 HF HG Hb1
    go_wp2_with fail
    refine (divides_any ikAt ikAt _ _ _ f _ _ _ g 2 _ HF3.out HG3.out Dg.out F7.out.fit (by omega) (by omega) (by omega)).mono ?_
    rintro e w4 ⟨rfl, hb4⟩
    have H4 := Lib.hid (H3.out.below ikN hb4)
    have HF4 := Lib.hid (HF3.out.below ikAt hb4)
    have HG4 := Lib.hid (HG3.out.below ikAt hb4)
    have Hb4 := Lib.hid (Hb3.out.trans (hb4.mono Hb3.out.size))
    clear hb4 H3 HF3 HG3 Hb3
    by_cases f0 : plen f = 0
    · rw [if_pos f0]
      have F0 := Lib.hid f0
      obtain ⟨bd, hbd⟩ : ∃ bd, bd = decide (plen g = 0) := ⟨_, rfl⟩
      rw [← hbd]
      have Hbd := Lib.hid hbd
      clear f0 hbd
      go_wp2_with fail
      refine (degree_any _ _ _ f _ (HF4.out.at_ ikAt) F7.out.fit.smp (by omega)).mono ?_
      rintro e w5 ⟨rfl, hb5⟩
      rw [F0.out]
      have HG5 := Lib.hid (HG4.out.below ikAt hb5)
      have Hb5 := Lib.hid (Hb4.out.trans (hb5.mono Hb4.out.size))
      clear hb5 HG4 Hb4
      go_wp2_with fail
      refine (degree_any _ _ _ g _ (HG5.out.at_ ikAt) G7.out.fit.smp (by omega)).mono ?_
      rintro e w6 ⟨rfl, hb6⟩
      have Hb6 := Lib.hid (Hb5.out.trans (hb6.mono Hb5.out.size))
      have he : (bd == decide (((plen g : Nat) : Int) - 1 < 0)) = true := by
        rw [beq_iff_eq, Hbd.out, decide_eq_decide]; omega
      obtain ⟨z, hz⟩ : ∃ z : Int, z = ((plen g : Nat) : Int) - 1 := ⟨_, rfl⟩
      rw [← hz] at he ⊢
      have He := Lib.hid he
      clear hb6 he hz
      go_wp2
      go_ret
      exact ⟨by rw [show (bd == decide (z < 0)) = true from He.out]; rfl, Hb6.out⟩
    · rw [if_neg f0]
      obtain ⟨d, hd⟩ : ∃ d, plen f = d + 1 := ⟨plen f - 1, by omega⟩
      have Hd := Lib.hid hd
      have hd0 : ¬ ((d : Int) < 0) := by omega
      obtain ⟨bd, hbd⟩ : ∃ bd, bd = decide (psr g f = []) := ⟨_, rfl⟩
      rw [← hbd]
      have F0 := Lib.hid f0
      have Hbd := Lib.hid hbd
      have hcmp : (bd == (((plen (gres f g) : Nat) : Int) - 1 == (d : Int))) = true := by
        have h1 : bd = (((plen (gres f g) : Nat) : Int) - 1 == (d : Int)) := by
          rw [Bool.eq_iff_iff, beq_iff_eq, hbd, decide_eq_true_iff, psr_nil_iff f0, dvq_gcd_iff f0 Hcl.out]; omega
        rw [← h1]; simp
      obtain ⟨z, hz⟩ : ∃ z : Int, z = ((plen (gres f g) : Nat) : Int) - 1 := ⟨_, rfl⟩
      rw [← hz] at hcmp
      have Hz := Lib.hid hz
      clear hd f0 hbd hz
      go_wp2_with fail
      refine (degree_any _ _ _ f _ (HF4.out.at_ ikAt) F7.out.fit.smp (by omega)).mono ?_
      rintro e w5 ⟨rfl, hb5⟩
      rw [Hd.out, show (((d + 1 : Nat) : Int) - 1) = (d : Int) by omega]
      have H5 := Lib.hid (H4.out.below ikN hb5)
      have HF5 := Lib.hid (HF4.out.below ikAt hb5)
      have HG5 := Lib.hid (HG4.out.below ikAt hb5)
      have Hb5 := Lib.hid (Hb4.out.trans (hb5.mono Hb4.out.size))
      clear hb5 H4 HF4 HG4 Hb4
      go_wp2_with fail
      refine (degree_any _ _ _ (gres f g) _ (H5.out.at_ ikN) HD.out.fit.smp (by omega)).mono ?_
      rintro e w6 ⟨rfl, hb6⟩
      rw [← Hz.out]
      have HF6 := Lib.hid (HF5.out.below ikAt hb6)
      have HG6 := Lib.hid (HG5.out.below ikAt hb6)
      have Hb6 := Lib.hid (Hb5.out.trans (hb6.mono Hb5.out.size))
      clear hb6 H5 HF5 HG5 Hb5
      go_wp2_with fail
      refine (degree_any _ _ _ f _ (HF6.out.at_ ikAt) F7.out.fit.smp (by omega)).mono ?_
      rintro e w7 ⟨rfl, hb7⟩
      rw [Hd.out, show (((d + 1 : Nat) : Int) - 1) = (d : Int) by omega]
      have HF7 := Lib.hid (HF6.out.below ikAt hb7)
      have HG7 := Lib.hid (HG6.out.below ikAt hb7)
      have Hb7 := Lib.hid (Hb6.out.trans (hb7.mono Hb6.out.size))
      clear hb7 HF6 HG6 Hb6
      go_wp2_with fail
      refine (primitive_any ikAt _ _ _ f _ HF7.out F7.out.fit.smp (by omega)).mono ?_
      rintro e w8 ⟨A8, l8, c8, rfl, h8, hb8⟩
      have hl8 : l8 ≤ 6 := by rw [← h8.length]; have := gp_trim f; have := congrArg List.length this; rw [ptrim_length, gp_plen] at this; omega
      have H8 := Lib.hid h8
      have HG8 := Lib.hid (HG7.out.below ikAt hb8)
      have Hb8 := Lib.hid (Hb7.out.trans (hb8.mono Hb7.out.size))
      have bp : ∀ j, ((pprim f).getD j 0).natAbs ≤ 4294967296 := fun j => Nat.le_trans (pprim_abs f j) (Bf.out j)
      have Fp := Lib.hid (show FitP (pprim f) from fun j => Nat.lt_of_le_of_lt (bp j) (by rw [BB_eq]; decide +kernel))
      have p1 : 1 ≤ plen (pprim f) := by rw [gp_plen]; have := F0.out; omega
      have Dp := Lib.hid (show Dl 47 (pprim f) from fun j => dlen_le_of_lt (Nat.lt_of_le_of_lt (bp j) (by rw [BB_eq]; decide +kernel)))
      have Es := Lib.hid (exsz_of (f := g) (g := pprim f) Bg.out bp (Nat.lt_of_le_of_lt (Nat.mul_le_mul_left _ (Nat.pow_le_pow_right (by decide) (show plen g - (plen (pprim f) - 1) ≤ 6 by omega))) (by rw [BB_eq]; decide +kernel)))
      have Hpc := Lib.hid (gp_cont F0.out)
      have hgood : (ExGood g (pprim f)) ↔ bd = true := by rw [exgood_prim F0.out, Hbd.out, decide_eq_true_iff, psr_nil_iff F0.out]
      have Hgood := Lib.hid hgood
      have P1 := Lib.hid p1
      clear h8 hb8 HF7 HG7 Hb7 bp p1 hgood
      go_wp2_with fail
      refine (exact_gen ikAt ikN _ _ _ g _ _ _ (pprim f) 47 47 _ HG8.out H8.out G7.out.fit.smp Dp.out P1.out (by omega) (by omega) (by omega) (by omega) Es.out).mono ?_
      rintro e w9 h9
      have h9' : ∃ A9 l9 c9 er, e = .returned (.tuple #[.slice A9 l9 c9, .int .i64 er]) ∧ (er == 0) = bd ∧ Below w8.heap.size w8 w9 := by
        rcases h9 with ⟨hg9, A9, l9, c9, rfl, _, hb9⟩ | ⟨hg9, rfl, hb9⟩
        · exact ⟨_, _, _, _, rfl, by rw [Hgood.out.1 hg9]; rfl, hb9⟩
        · refine ⟨_, _, _, _, rfl, ?_, hb9⟩
          cases bd with
          | false => rfl
          | true => exact absurd (Hgood.out.2 rfl) hg9
      obtain ⟨A9, l9, c9, er, rfl, her, hb9⟩ := h9'
      have H9 := Lib.hid (H8.out.below ikN hb9)
      have Hb9 := Lib.hid (Hb8.out.trans (hb9.mono Hb8.out.size))
      clear h9 hb9 H8 HG8 Hb8
      go_wp2_with fail
      refine (zsmall_any 0 _ (by decide)).mono ?_
      rintro e w10 ⟨s10, A10, l10, c10, rfl, h10, hb10⟩
      have Z10 := Lib.hid h10
      have H10 := Lib.hid (H9.out.below ikN hb10)
      have Hb10 := Lib.hid (Hb9.out.trans (hb10.mono Hb9.out.size))
      clear h10 hb10 H9 Hb9
      go_wp2_with fail
      refine (zsmall_any 1 _ (by decide)).mono ?_
      rintro e w11 ⟨s11, A11, l11, c11, rfl, h11, hb11⟩
      have Z11 := Lib.hid h11
      have Z10b := Lib.hid (Z10.out.below hb11)
      have H11 := Lib.hid (H10.out.below ikN hb11)
      have Hb11 := Lib.hid (Hb10.out.trans (hb11.mono Hb10.out.size))
      clear h11 hb11 H10 Hb10 Z10
      go_wp2_with fail
      refine (zgcd_any _ _ _ _ 0 _ _ _ _ 1 _ Z10b.out Z11.out (by rw [Z10b.out.len]; decide) (by rw [Z11.out.len]; decide)).mono ?_
      rintro e w12 ⟨s12, A12, l12, c12, rfl, h12, hb12⟩
      have L12 : l12 ≤ 1000000 := by rw [h12.len]; decide
      have Z12 := Lib.hid (ZBox.make h12)
      have hb12' : Below w11.heap.size w11 (w12.alloc (zbox s12 A12 l12 c12)) := hb12.alloc hb12.size _
      have H12 := Lib.hid (H11.out.below ikN hb12')
      have Hb12 := Lib.hid (Hb11.out.trans (hb12'.mono Hb11.out.size))
      clear h12 hb12 hb12' H11 Hb11 Z10b Z11
      go_wp2_with fail
      refine (content_any ikN _ _ _ (pprim f) _ H12.out Fp.out.smp (by omega)).mono ?_
      rintro e w13 ⟨n13, A13, l13, c13, rfl, h13, hb13⟩
      rw [Hpc.out] at h13
      have hb13' : Below (w12.alloc (zbox s12 A12 l12 c12)).heap.size (w12.alloc (zbox s12 A12 l12 c12)) (w13.alloc (ibox n13 A13 l13 c13)) := hb13.alloc hb13.size _
      have I13 := Lib.hid (IBox.make h13)
      have Z13 := Lib.hid (Z12.out.move hb13')
      have Hb13 := Lib.hid (Hb12.out.trans (hb13'.mono Hb12.out.size))
      have a0 := I13.out.c0
      have a1 := I13.out.c1
      have z0 := Z13.out.c0
      have z1 := Z13.out.c1
      have hsz := hb13.size
      simp only [World.size_alloc] at hsz
      have her2 : ((er == 0) == bd) = true := by rw [her]; simp
      clear h13 hb13 hb13' H12 Hb12 Z12
      go_wp2_with fail
      refine (zis_any _ _ _ _ 1 _ _ _ _ _ (I13.out.hz.below (by (repeat (first | exact Below.refl _ _ | refine Below.drew ?_ | refine Below.alloc ?_ (by first | (simp; done) | (simp; omega) | omega) _ | refine Below.setCell ?_ (by first | (simp; done) | (simp; omega) | omega) _)))) (Z13.out.hz.below (by (repeat (first | exact Below.refl _ _ | refine Below.drew ?_ | refine Below.alloc ?_ (by first | (simp; done) | (simp; omega) | omega) _ | refine Below.setCell ?_ (by first | (simp; done) | (simp; omega) | omega) _)))) L12).mono ?_
      rintro e w14 ⟨rfl, hb14⟩
      have Hb14 := Lib.hid (Hb13.out.trans ((Below.trans (by (repeat (first | exact Below.refl _ _ | refine Below.drew ?_ | refine Below.alloc ?_ (by first | (simp; done) | (simp; omega) | omega) _ | refine Below.setCell ?_ (by first | (simp; done) | (simp; omega) | omega) _))) (hb14.mono (by simp <;> omega))).mono Hb13.out.size))
      clear hb14 Hb13
      go_wp2
      go_ret
      exact ⟨rfl, Hb14.out⟩
end Go.Proofs.Ytgblfpkfapmlnaa
