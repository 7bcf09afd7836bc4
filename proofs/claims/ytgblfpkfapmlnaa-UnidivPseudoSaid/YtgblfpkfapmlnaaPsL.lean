/- The walk of the law UnidivPseudo: it answers true, and only makes new memory. -/
import Derived.Test.YtgblfpkfapmlnaaFew
import Derived.Test.YtgblfpkfapmlnaaAwl
import Derived.Test.YtgblfpkfapmlnaaBto
import Derived.Test.YtgblfpkfapmlnaaBtm
import Derived.Test.YtgblfpkfapmlnaaBtr
namespace Go.Proofs.Ytgblfpkfapmlnaa
open Go.RowKit

set_option maxRecDepth 100000 in
set_option maxHeartbeats 1000000 in
theorem pseudo_zero {I : IntPred} (hI : IK I) (A : Option Addr) (la ca : Nat) (B : Option Addr) (lb cb : Nat) (g : List Int) (w : World) (hg : PolyP I w B lb cb g) (fg : FitP g) (h0 : plen g = 0) (hlb : lb ≤ 1000000) :
    Calls Try.prog 12 #[.slice A la ca, .slice B lb cb] w fun e w' => e = .returned (.tuple #[.slice none 0 0, .slice none 0 0, .int .i64 2]) ∧ Below w.heap.size w w' := by
  have hsg : SmP g := fg.smp
  have hneg : ((plen g : Nat) : Int) - 1 < 0 := by omega
  go_enter Try.func12, Try.ntmps12
  go_wp2_with fail
  refine (degree_any _ _ _ _ _ (hg.at_ hI) hsg (by omega)).mono ?_
  rintro e w1 ⟨rfl, hb1⟩
  have Hb1 := Lib.hid hb1
  rw [h0]
  clear hg hb1 h0 hneg
  go_wp2
  exact bodyPost_ret (v := .tuple #[.slice none 0 0, .slice none 0 0, .int .i64 2]) (by simp [results, Try.results12, go_sem]) rfl ⟨rfl, Hb1.out⟩

theorem bb_pow (k : Nat) : BB ^ k = 2 ^ (32 * k) := by rw [BBp, ← Nat.pow_mul]
theorem bd_zb {k : Nat} {f : List Int} (h : Bd (BB ^ k) f) (hk : k ≤ 1000) : ZB 400000 f := h.zb (by
  have := bln_pow (M := BB ^ k) (E := 32 * k) (by rw [bb_pow]; exact Nat.le_refl _)
  omega)
theorem ZB.mono {a b : Nat} {f : List Int} (h : ZB a f) (hab : a ≤ b) : ZB b f := fun j => Nat.le_trans (h j) hab

set_option maxRecDepth 100000 in
set_option maxHeartbeats 8000000 in
theorem law_pseudo (A : Option Addr) (la ca : Nat) (f : List Int) (B : Option Addr) (lb cb : Nat) (g : List Int) (w : World) (hf : PolyP IntR w A la ca f) (hg : PolyP IntR w B lb cb g) :
    Calls Try.prog 3 #[.slice A la ca, .slice B lb cb] w fun e w' => e = .returned (.bool true) ∧ Below w.heap.size w w' := by
  go_enter Try.func3, Try.ntmps3
  go_wp2_with fail
  refine (awake9_any _).mono ?_
  rintro e w1 ⟨rfl, hb1⟩
  have hf1 := PolyR.below hf hb1
  have hg1 := PolyR.below hg hb1
  have Hb1 := Lib.hid hb1
  clear hf hg hb1
  go_wp2_with fail
  refine (few_any 8 2 _ _ _ _ _ _ _ _ _ hf1 hg1 (by omega) (by omega)).mono ?_
  rintro e w2 ⟨⟨b, rfl, hq⟩, rfl⟩
  clear hf1 hg1
  cases b with
  | false =>
    clear hq
    go_wp2_with fail
    refine (awake9_any _).mono ?_
    rintro e w3 ⟨rfl, hb3⟩
    have Hb3 := Lib.hid (Hb1.out.trans (hb3.mono Hb1.out.size))
    clear hb3 Hb1
    go_wp2
    go_ret
    exact ⟨rfl, Hb3.out⟩
  | true =>
    obtain ⟨qf, qg⟩ := hq rfl
    have hla := qf.le
    have hlb := qg.le
    have Ff0 := Lib.hid qf.lt
    have Gg0 := Lib.hid qg.lt
    have hf2 := qf.at_
    have hg2 := qg.at_
    have fitg : FitP g := fun k => pow_fit (Gg0.out k) (by omega)
    have lf : f.length = la := hf2.length
    have lg : g.length = lb := hg2.length
    have hpf := plen_le f
    have hpg := plen_le g
    have Df := Lib.hid (fun j => (show dlen (f.getD j 0).natAbs ≤ 1000 from Nat.le_trans (dlen_le_of_lt (Ff0.out j)) (by decide)))
    have Dg := Lib.hid (fun j => (show dlen (g.getD j 0).natAbs ≤ 1000 from Nat.le_trans (dlen_le_of_lt (Gg0.out j)) (by decide)))
    have Fg := Lib.hid fitg
    have HF := Lib.hid hf2
    have HG := Lib.hid hg2
    have pfb : plen f ≤ 8 := by omega
    have pgb : plen g ≤ 8 := by omega
    have OK0 := Lib.hid (fun (h : plen g ≠ 0) => (show IdOK f g from ⟨Ff0.out, Gg0.out, by omega, by omega⟩))
    clear hq qf qg hf2 hg2 fitg lf lg hpf hpg
    go_wp2_with fail
    refine (lof_any ikAt _ _ _ f _ HF.out (by omega) Df.out).mono ?_
    rintro e w3 ⟨A3, l3, c3, rfl, h3, _, hb3⟩
    have hl3 : l3 = plen f := by rw [← h3.length, ptrim_length]
    subst hl3
    have HX := Lib.hid h3
    have HF3 := Lib.hid (HF.out.below ikAt hb3)
    have HG3 := Lib.hid (HG.out.below ikAt hb3)
    have Hb3 := Lib.hid (Hb1.out.trans (hb3.mono Hb1.out.size))
    clear h3 hb3 HF HG Hb1
    go_wp2_with fail
    refine (lof_any ikAt _ _ _ g _ HG3.out (by omega) Dg.out).mono ?_
    rintro e w4 ⟨A4, l4, c4, rfl, h4, _, hb4⟩
    have hl4 : l4 = plen g := by rw [← h4.length, ptrim_length]
    subst hl4
    have HY := Lib.hid h4
    have HX4 := Lib.hid (HX.out.below hb4)
    have HF4 := Lib.hid (HF3.out.below ikAt hb4)
    have HG4 := Lib.hid (HG3.out.below ikAt hb4)
    have Hb4 := Lib.hid (Hb3.out.trans (hb4.mono Hb3.out.size))
    clear h4 hb4 HF3 HG3 HX Hb3
    by_cases hg0 : plen g = 0
    · have g0 : (((plen g : Nat) : Int) == 0) = true := by rw [hg0]; rfl
      have Hg0 := Lib.hid hg0
      clear hg0
      go_wp2_with fail
      refine (pseudo_zero ikAt _ _ _ _ _ _ g _ HG4.out Fg.out Hg0.out (by omega)).mono ?_
      rintro e w5 ⟨rfl, hb5⟩
      have Hb5 := Lib.hid (Hb4.out.trans (hb5.mono Hb4.out.size))
      clear hb5 Hb4 HF4 HG4
      go_wp2
      go_ret
      exact ⟨rfl, Hb5.out⟩
    · have g0 : (((plen g : Nat) : Int) == 0) = false := by rw [beq_eq_false_iff_ne]; omega
      have OK := Lib.hid (OK0.out hg0)
      have h1 : 1 ≤ plen g := by omega
      have Heq := Lib.hid (rrun_ps (f := f) h1)
      clear OK0 hg0
      go_wp2_with fail
      refine (pseudo_any ikAt ikAt _ _ _ f _ _ _ g 2 _ HF4.out HG4.out OK.out.dl Fg.out h1 (by omega) (by omega) (by omega)).mono ?_
      rintro e w5 ⟨A5, l5, c5, A6, l6, c6, rfl, hq5, hr5, hb5⟩
      have HQ := Lib.hid hq5
      have HR := Lib.hid hr5
      have HX5 := Lib.hid (HX4.out.below hb5)
      have HY5 := Lib.hid ((HY.out).below hb5)
      have Hb5 := Lib.hid (Hb4.out.trans (hb5.mono Hb4.out.size))
      clear hq5 hr5 hb5 HX4 HY Hb4 HF4 HG4
      go_wp2_with fail
      refine (rpseudo_any _ _ _ (ptrim f) _ _ _ (ptrim g) _ HX5.out HY5.out (by omega) (by omega) (by omega) (M := BB ^ 2) (E := 64) (by rw [bb_pow]; exact Nat.le_refl _) (by decide) (Nat.pow_pos BB_pos) (fun j => by rw [ptrim_getD]; exact Nat.le_of_lt (Ff0.out j)) (fun j => by rw [ptrim_getD]; exact Nat.le_of_lt (Gg0.out j))).mono ?_
      rintro e w6 ⟨A7, l7, c7, A8, l8, c8, rfl, hq6, hr6, hb6⟩
      rw [Heq.out] at hq6 hr6
      have HU := Lib.hid hq6
      have HV := Lib.hid hr6
      have HQ6 := Lib.hid (HQ.out.below ikN hb6)
      have HR6 := Lib.hid (HR.out.below ikN hb6)
      have Hb6 := Lib.hid (Hb5.out.trans (hb6.mono Hb5.out.size))
      have ql := psq_len f g
      have rl := psr_len f g
      have hl5 : l5 ≤ 8 := by rw [← HQ.out.length]; omega
      have hl6 : l6 ≤ 8 := by rw [← HR.out.length]; omega
      clear hq6 hr6 hb6 HQ HR HX5 HY5 Hb5 ql rl
      go_wp2_with fail
      refine (lis_any _ _ _ (psq f g) _ _ _ _ HQ6.out HU.out (by omega) ((bd_zb OK.out.bd.1 (by omega)).mono (by omega))).mono ?_
      rintro e w7 ⟨rfl, hb7⟩
      have HV7 := Lib.hid (HV.out.below hb7)
      have HR7 := Lib.hid (HR6.out.below ikN hb7)
      have Hb7 := Lib.hid (Hb6.out.trans (hb7.mono Hb6.out.size))
      clear hb7 HU HV HQ6 HR6 Hb6
      go_wp2_with fail
      refine (lis_any _ _ _ (psr f g) _ _ _ _ HR7.out HV7.out (by omega) ((bd_zb OK.out.bd.2 (by omega)).mono (by omega))).mono ?_
      rintro e w8 ⟨rfl, hb8⟩
      have Hb8 := Lib.hid (Hb7.out.trans (hb8.mono Hb7.out.size))
      clear hb8 HV7 HR7 Hb7
      go_wp2
      go_ret
      exact ⟨rfl, Hb8.out⟩
end Go.Proofs.Ytgblfpkfapmlnaa
