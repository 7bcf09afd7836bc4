/- The walk of the law UnidivExact: it answers true, and only makes new memory. -/
import Derived.Test.YtgblfpkfapmlnaaGreatFew
import Derived.Test.YtgblfpkfapmlnaaGreatDvc
import Derived.Test.YtgblfpkfapmlnaaGreatZex
import Derived.Test.YtgblfpkfapmlnaaGreatBtr
import Derived.Test.YtgblfpkfapmlnaaGreatBtm
namespace Go.Proofs.YtgblfpkfapmlnaaGreat
open Go.RowKit

set_option maxRecDepth 100000 in
set_option maxHeartbeats 1000000 in
theorem exact_zero {I : IntPred} (hI : IK I) (A : Option Addr) (la ca : Nat) (B : Option Addr) (lb cb : Nat) (g : List Int) (w : World) (hg : PolyP I w B lb cb g) (fg : FitP g) (h0 : plen g = 0) (hlb : lb ≤ 1000000) :
    Calls Tryz.prog 13 #[.slice A la ca, .slice B lb cb] w fun e w' => e = .returned (.tuple #[.slice none 0 0, .int .i64 2]) ∧ Below w.heap.size w w' := by
  have hsg : SmP g := fg.smp
  have hneg : ((plen g : Nat) : Int) - 1 < 0 := by omega
  go_enter Tryz.func13, Tryz.ntmps13
  go_wp2_with fail
  refine (degree_any _ _ _ _ _ (hg.at_ hI) hsg (by omega)).mono ?_
  rintro e w1 ⟨rfl, hb1⟩
  have Hb1 := Lib.hid hb1
  rw [h0]
  clear hg hb1 h0 hneg
  go_wp2
  exact bodyPost_ret (v := .tuple #[.slice none 0 0, .int .i64 2]) (by simp [results, Tryz.results13, go_sem]) rfl ⟨rfl, Hb1.out⟩

theorem fewq7 {w : World} {A : Option Addr} {len cap : Nat} {p : List Int} (h : FewQ w 7 2 A len cap p) : Few7 p ∧ p.length ≤ 7 := by
  have h1 := plen_le p
  have h2 := h.at_.length
  have h3 := h.le
  refine ⟨⟨by omega, fun j => ?_⟩, by omega⟩
  have := h.lt j
  rw [BB_eq] at this
  omega
theorem Few7.dl {f : List Int} (h : Few7 f) : Dl 3 f := fun j => dlen_le_of_lt (Nat.lt_of_le_of_lt (h.2 j) (by rw [BB_eq]; decide +kernel))
theorem Few7.zb {f : List Int} (h : Few7 f) : ZB 1000 (ptrim f) := fun j => by
  rw [ptrim_getD]
  exact Nat.le_trans (bln_mono (h.2 j)) (by decide +kernel)
theorem mul7 {f g : List Int} (hf : Few7 f) (hg : Few7 g) (j : Nat) : ((polymul (ptrim f) (ptrim g)).getD j 0).natAbs ≤ 14 * (18446744073709551616 * 18446744073709551616) := by
  have h1 := rmz_bd (f := ptrim f) (g := ptrim g) (X := 18446744073709551616) (Y := 18446744073709551616) (fun j => by rw [ptrim_getD]; exact hf.2 j) (fun j => by rw [ptrim_getD]; exact hg.2 j) (ptrim g).length j
  rw [rmz_all, ptrim_getD] at h1
  refine Nat.le_trans h1 (Nat.mul_le_mul_right _ ?_)
  rw [ptrim_length]; have := hg.1; omega
theorem mul7_len {f g : List Int} (hf : Few7 f) (hg : Few7 g) : (polymul (ptrim f) (ptrim g)).length ≤ 14 := by
  unfold polymul
  split
  · simp
  · rw [pmul_length, ptrim_length, ptrim_length]; have := hf.1; have := hg.1; omega
theorem plen_mul_le {f g : List Int} (hg : plen g ≠ 0) : plen (polymul (ptrim f) (ptrim g)) - (plen g - 1) = plen f := by
  by_cases h : plen f = 0
  · have : plen (polymul (ptrim f) (ptrim g)) = 0 := polymul_zero_l (by rw [plen_ptrim]; exact h)
    omega
  · have := (plen_mul (f := ptrim f) (g := ptrim g) (by rw [plen_ptrim]; omega) (by rw [plen_ptrim]; omega)).1
    rw [plen_ptrim, plen_ptrim] at this
    omega
/-- a product is divided exactly, and the quotient is the other factor -/
theorem mul7_good {f g : List Int} (hf : Few7 f) (hg : Few7 g) (g0 : plen g ≠ 0) : ExGood (polymul (ptrim f) (ptrim g)) g ∧ pexq (polymul (ptrim f) (ptrim g)) g = ptrim f ∧ ExSz 47 (polymul (ptrim f) (ptrim g)) g := by
  have he : ∀ x, ev (polymul (ptrim f) (ptrim g)) x = ev (ptrim f) x * ev g x := fun x => by rw [ev_mul, ev_trim g]
  have hsz : ExSz 47 (polymul (ptrim f) (ptrim g)) g := exsz_of (mul7 hf hg) hg.2 (Nat.lt_of_le_of_lt (Nat.mul_le_mul_left _ (Nat.pow_le_pow_right (by decide) (show plen (polymul (ptrim f) (ptrim g)) - (plen g - 1) ≤ 7 by rw [plen_mul_le g0]; exact hf.1))) (by rw [BB_eq]; decide +kernel))
  refine ⟨exgood_prod he g0, ?_, hsz⟩
  by_cases f0 : plen f = 0
  · have h1 : (pexq (polymul (ptrim f) (ptrim g)) g).length = 0 := by rw [pexq_length, plen_mul_le g0, f0]
    have h2 : (ptrim f).length = 0 := by rw [ptrim_length, f0]
    rw [List.eq_nil_of_length_eq_zero h1, List.eq_nil_of_length_eq_zero h2]
  · exact (exact_prod (f := polymul (ptrim f) (ptrim g)) (q := ptrim f) (fun k => by
      rw [← polymul_getD]
      exact ev_inj (fun x => by rw [ev_mul, ev_mul, ev_trim g]) k) (ptrim_ptrim f) (by rw [plen_ptrim]; exact f0) g0 (hf.trim.fit) hg.fit (by rw [plen_ptrim]; have := hf.1; omega)).2
theorem few7_sz {f g : List Int} (hf : Few7 f) (hg : Few7 g) : ExSz 47 f g := exsz_of hf.2 hg.2 (Nat.lt_of_le_of_lt (Nat.mul_le_mul_left _ (Nat.pow_le_pow_right (by decide) (show plen f - (plen g - 1) ≤ 7 by have := hf.1; omega))) (by rw [BB_eq]; decide +kernel))
theorem exgood_trim (f g : List Int) : (ExGood (ptrim f) (ptrim g) ↔ ExGood f g) ∧ (ExGood f g → pexq (ptrim f) (ptrim g) = pexq f g) := by
  have e1 : plead (ptrim g) = plead g := by unfold plead; rw [plen_ptrim, ptrim_getD]
  have e2 : ∀ t, exn (plead g) (ptrim g) (plen g - 1) (plen f - (plen g - 1)) (ptrim f) t = exn (plead g) g (plen g - 1) (plen f - (plen g - 1)) (ptrim f) t := by
    intro t
    induction t with
    | zero => rfl
    | succ t ih =>
      rw [exn, exn, ih]
      congr 1
      unfold exRow
      refine List.map_congr_left fun j _ => ?_
      rw [ptrim_getD]
  have h1 : ExGood (ptrim f) (ptrim g) ↔ ExGood f g := by
    unfold ExGood exst
    rw [plen_ptrim, plen_ptrim, ptrim_ptrim, e1]
    simp only [e2]
  refine ⟨h1, fun _ => ?_⟩
  unfold pexq
  rw [plen_ptrim, plen_ptrim, ptrim_ptrim, e1, e2]
theorem exn_q_bd {lead : Int} {g z : List Int} {d m X Y T : Nat} (hg : ∀ j, (g.getD j 0).natAbs ≤ Y) (hz : ∀ j, (z.getD j 0).natAbs ≤ X) : ∀ t, t ≤ T → ∀ k, ((exn lead g d m z t).1.getD k 0).natAbs ≤ X * (1 + Y) ^ T
  | 0, _, k => by
    show ((List.replicate m (0 : Int)).getD k 0).natAbs ≤ _
    have : (List.replicate m (0 : Int)).getD k 0 = 0 := by
      rw [List.getD_eq_getElem?_getD, List.getElem?_replicate]; split <;> rfl
    rw [this]; simp
  | t + 1, ht, k => by
    have ih := exn_q_bd (lead := lead) (d := d) (m := m) hg hz t (T := T) (by omega) k
    have hb := exn_bd (lead := lead) (d := d) (m := m) hg hz t (m - 1 - t + d)
    obtain ⟨S, hS⟩ : ∃ S, S = exn lead g d m z t := ⟨_, rfl⟩
    have hE : (exn lead g d m z (t + 1)).1 = S.1.set (m - 1 - t) ((S.2.getD (m - 1 - t + d) 0).tdiv lead) := by rw [hS]; rfl
    rw [hE]
    rw [← hS] at ih hb
    by_cases h1 : k = m - 1 - t
    · subst h1
      by_cases h2 : m - 1 - t < S.1.length
      · rw [List.getD_eq_getElem?_getD, List.getElem?_set_self h2]
        show ((S.2.getD (m - 1 - t + d) 0).tdiv lead).natAbs ≤ _
        rw [Int.natAbs_tdiv]
        exact Nat.le_trans (Nat.div_le_self _ _) (Nat.le_trans hb (Nat.mul_le_mul_left _ (Nat.pow_le_pow_right (by omega) (by omega))))
      · rw [getD_out _ (by rw [List.length_set]; omega)]; simp
    · rw [List.getD_eq_getElem?_getD, List.getElem?_set_ne (by omega), ← List.getD_eq_getElem?_getD]; exact ih
theorem pexq_zb {f g : List Int} (hf : Few7 f) (hg : Few7 g) : ZB 1000000 (pexq f g) := fun k => by
  have h1 := exn_q_bd (lead := plead g) (d := plen g - 1) (m := plen f - (plen g - 1)) (z := ptrim f) (X := 18446744073709551616) (T := 7) hg.2 (fun j => by rw [ptrim_getD]; exact hf.2 j) (plen f - (plen g - 1)) (by have := hf.1; omega) k
  exact Nat.le_trans (bln_mono h1) (by decide +kernel)

set_option maxRecDepth 100000 in
set_option maxHeartbeats 8000000 in
theorem law_exact (A : Option Addr) (la ca : Nat) (f : List Int) (B : Option Addr) (lb cb : Nat) (g : List Int) (C : Option Addr) (lc cc : Nat) (h : List Int) (w : World) (hf : PolyP IntR w A la ca f) (hg : PolyP IntR w B lb cb g) (hh : PolyP IntR w C lc cc h) :
    Calls Tryz.prog 4 #[.slice A la ca, .slice B lb cb, .slice C lc cc] w fun e w' => e = .returned (.bool true) ∧ Below w.heap.size w w' := by
  go_enter Tryz.func4, Tryz.ntmps4
  go_wp2_with fail
  refine (awake9_any _).mono ?_
  rintro e w1 ⟨rfl, hb1⟩
  have hf1 := PolyR.below hf hb1
  have hg1 := PolyR.below hg hb1
  have hh1 := PolyR.below hh hb1
  have Hb := Lib.hid hb1
  clear hf hg hh hb1
  go_wp2_with fail
  refine (few_any 7 2 _ _ _ _ _ _ _ _ _ hf1 hg1 (by omega) (by omega)).mono ?_
  rintro e w2 ⟨⟨b, rfl, hq⟩, rfl⟩
  clear hf1 hg1
  cases b with
  | false =>
    clear hq hh1
    go_wp2_with fail
    refine (awake9_any _).mono ?_; rintro e wb ⟨rfl, hbb⟩; replace Hb := Lib.hid (Hb.out.trans (hbb.mono Hb.out.size)); clear hbb; go_wp2; go_ret; exact ⟨rfl, Hb.out⟩
  | true =>
    obtain ⟨qf, qg⟩ := hq rfl
    clear hq
    go_wp2_with fail
    refine (few1_any 7 2 _ _ _ _ _ hh1 (by omega) (by omega)).mono ?_
    rintro e w3 ⟨⟨b, rfl, hq⟩, rfl⟩
    cases b with
    | false =>
      clear hq hh1 qf qg
      go_wp2_with fail
      refine (awake9_any _).mono ?_; rintro e wb ⟨rfl, hbb⟩; replace Hb := Lib.hid (Hb.out.trans (hbb.mono Hb.out.size)); clear hbb; go_wp2; go_ret; exact ⟨rfl, Hb.out⟩
    | true =>
      have qh := hq rfl
      clear hq hh1
      have hla := qf.le
      have hlb := qg.le
      have hlc := qh.le
      have HF := Lib.hid qf.at_
      have HG := Lib.hid qg.at_
      have HH := Lib.hid qh.at_
      obtain ⟨f7, _⟩ := fewq7 qf
      obtain ⟨g7, _⟩ := fewq7 qg
      obtain ⟨h7, _⟩ := fewq7 qh
      have F7 := Lib.hid f7
      have G7 := Lib.hid g7
      have H7 := Lib.hid h7
      have pf7 := f7.1
      have pg7 := g7.1
      have ph7 := h7.1
      have Hml := Lib.hid (mul7_len f7 g7)
      have Hmf := Lib.hid (show FitP (polymul (ptrim f) (ptrim g)) from fun j => Nat.lt_of_le_of_lt (mul7 f7 g7 j) (by rw [BB_eq]; decide +kernel))
      have Hmd := Lib.hid (show Dl 6 (polymul (ptrim f) (ptrim g)) from fun j => dlen_le_of_lt (Nat.lt_of_le_of_lt (mul7 f7 g7 j) (by rw [BB_eq]; decide +kernel)))
      clear qf qg qh f7 g7 h7
      go_wp2_with fail
      refine (lof_any ikAt _ _ _ f _ HF.out (by omega) (fun j => Nat.le_trans (F7.out.dl j) (by decide))).mono ?_
      rintro e w4 ⟨A4, l4, c4, rfl, h4, _, hb4⟩
      have hl4 : l4 = plen f := by rw [← h4.length, ptrim_length]
      subst hl4
      have HX := Lib.hid h4
      replace HF := Lib.hid (HF.out.below ikAt hb4); replace HG := Lib.hid (HG.out.below ikAt hb4); replace HH := Lib.hid (HH.out.below ikAt hb4); replace Hb := Lib.hid (Hb.out.trans (hb4.mono Hb.out.size))
      clear h4 hb4
      go_wp2_with fail
      refine (lof_any ikAt _ _ _ g _ HG.out (by omega) (fun j => Nat.le_trans (G7.out.dl j) (by decide))).mono ?_
      rintro e w5 ⟨A5, l5, c5, rfl, h5, _, hb5⟩
      have hl5 : l5 = plen g := by rw [← h5.length, ptrim_length]
      subst hl5
      have HY := Lib.hid h5
      replace HX := Lib.hid (HX.out.below hb5)
      replace HF := Lib.hid (HF.out.below ikAt hb5); replace HG := Lib.hid (HG.out.below ikAt hb5); replace HH := Lib.hid (HH.out.below ikAt hb5); replace Hb := Lib.hid (Hb.out.trans (hb5.mono Hb.out.size))
      clear h5 hb5
      go_wp2_with fail
      refine (polymul_any ikAt ikAt _ _ _ f _ _ _ g _ HF.out HG.out F7.out.fit G7.out.fit (by omega) (by omega)).mono ?_
      rintro e w6 ⟨A6, l6, c6, rfl, h6, hb6⟩
      have hl6 : l6 ≤ 14 := by rw [← h6.length]; exact Hml.out
      have HM := Lib.hid h6
      replace HX := Lib.hid (HX.out.below hb6)
      replace HY := Lib.hid (HY.out.below hb6)
      replace HF := Lib.hid (HF.out.below ikAt hb6); replace HG := Lib.hid (HG.out.below ikAt hb6); replace HH := Lib.hid (HH.out.below ikAt hb6); replace Hb := Lib.hid (Hb.out.trans (hb6.mono Hb.out.size))
      clear h6 hb6
      by_cases g0 : plen g = 0
      · have t1 : (((plen g : Nat) : Int) == 0) = true := by rw [g0]; rfl
        have G0 := Lib.hid g0
        clear g0
        go_wp2_with fail
        refine (exact_zero ikAt _ _ _ _ _ _ g _ HG.out G7.out.fit G0.out (by omega)).mono ?_
        rintro e w7 ⟨rfl, hb7⟩
        replace HF := Lib.hid (HF.out.below ikAt hb7); replace HG := Lib.hid (HG.out.below ikAt hb7); replace HH := Lib.hid (HH.out.below ikAt hb7); replace Hb := Lib.hid (Hb.out.trans (hb7.mono Hb.out.size))
        clear hb7 HM HX HY
        go_wp2_with fail
        refine (exact_zero ikAt _ _ _ _ _ _ g _ HG.out G7.out.fit G0.out (by omega)).mono ?_
        rintro e w8 ⟨rfl, hb8⟩
        replace HF := Lib.hid (HF.out.below ikAt hb8); replace HG := Lib.hid (HG.out.below ikAt hb8); replace HH := Lib.hid (HH.out.below ikAt hb8); replace Hb := Lib.hid (Hb.out.trans (hb8.mono Hb.out.size))
        clear hb8
        go_wp2_with fail
        refine (divides_any ikAt ikAt _ _ _ g _ _ _ h 3 _ HG.out HH.out H7.out.dl G7.out.fit (by omega) (by omega) (by omega)).mono ?_
        rintro e w9 ⟨rfl, hb9⟩
        rw [if_pos G0.out]
        obtain ⟨bd, hbd⟩ : ∃ bd, bd = decide (plen h = 0) := ⟨_, rfl⟩
        rw [← hbd]
        have Hbd := Lib.hid hbd
        replace HF := Lib.hid (HF.out.below ikAt hb9); replace HG := Lib.hid (HG.out.below ikAt hb9); replace HH := Lib.hid (HH.out.below ikAt hb9); replace Hb := Lib.hid (Hb.out.trans (hb9.mono Hb.out.size))
        clear hb9 hbd
        go_wp2_with fail
        refine (degree_any _ _ _ h _ (HH.out.at_ ikAt) H7.out.fit.smp (by omega)).mono ?_
        rintro e w10 ⟨rfl, hb10⟩
        have he : (bd == decide (((plen h : Nat) : Int) - 1 < 0)) = true := by
          rw [beq_iff_eq, Hbd.out, decide_eq_decide]; omega
        obtain ⟨z, hz⟩ : ∃ z : Int, z = ((plen h : Nat) : Int) - 1 := ⟨_, rfl⟩
        rw [← hz] at he ⊢
        have He := Lib.hid he
        replace HF := Lib.hid (HF.out.below ikAt hb10); replace HG := Lib.hid (HG.out.below ikAt hb10); replace HH := Lib.hid (HH.out.below ikAt hb10); replace Hb := Lib.hid (Hb.out.trans (hb10.mono Hb.out.size))
        clear hb10 he hz
        go_wp2
        go_ret
        exact ⟨by first | (rw [He.out]; rfl) | rw [He.out] | rfl, Hb.out⟩
      · have t1 : (((plen g : Nat) : Int) == 0) = false := by rw [beq_eq_false_iff_ne]; omega
        have G0 := Lib.hid g0
        obtain ⟨m1, m2, m3⟩ := mul7_good F7.out G7.out g0
        have M1 := Lib.hid m1
        have M2 := Lib.hid m2
        have M3 := Lib.hid m3
        have G1 := Lib.hid (show 1 ≤ plen g by omega)
        obtain ⟨x1, x2⟩ := exgood_trim h g
        have X1 := Lib.hid x1
        have X2 := Lib.hid x2
        have S1 := Lib.hid (few7_sz H7.out G7.out)
        clear m1 m2 m3 x1 x2 g0
        go_wp2_with fail
        refine (exact_gen ikN ikAt _ _ _ (polymul (ptrim f) (ptrim g)) _ _ _ g 47 3 _ HM.out HG.out Hmf.out.smp G7.out.dl G1.out (by omega) (by omega) (by omega) (by omega) M3.out).mono ?_
        rintro e w7 h7
        obtain ⟨A7, l7, c7, rfl, h7p, hb7⟩ : ∃ A1 l1 c1, e = .returned (.tuple #[.slice A1 l1 c1, .int .i64 0]) ∧ PolyN w7 A1 l1 c1 (ptrim f) ∧ Below w6.heap.size w6 w7 := by
          rcases h7 with ⟨_, A1, l1, c1, r1, r2, r3⟩ | ⟨r1, _⟩
          · exact ⟨A1, l1, c1, r1, by rw [← M2.out]; exact r2, r3⟩
          · exact absurd M1.out r1
        have HP := Lib.hid h7p
        have hl7 : l7 ≤ 7 := by rw [← h7p.length, ptrim_length]; exact F7.out.1
        replace HX := Lib.hid (HX.out.below hb7)
        replace HY := Lib.hid (HY.out.below hb7)
        replace HF := Lib.hid (HF.out.below ikAt hb7); replace HG := Lib.hid (HG.out.below ikAt hb7); replace HH := Lib.hid (HH.out.below ikAt hb7); replace Hb := Lib.hid (Hb.out.trans (hb7.mono Hb.out.size))
        clear h7 h7p hb7 HM
        go_wp2_with fail
        refine (exact_gen ikAt ikAt _ _ _ h _ _ _ g 47 3 _ HH.out HG.out H7.out.fit.smp G7.out.dl G1.out (by omega) (by omega) (by omega) (by omega) S1.out).mono ?_
        rintro e w8 h8
        obtain ⟨A8, l8, c8, er, gd, rfl, hgd, her, h8p, hb8⟩ : ∃ A1 l1 c1 er, ∃ gd : Bool, e = .returned (.tuple #[.slice A1 l1 c1, .int .i64 er]) ∧ (gd = true ↔ ExGood h g) ∧ er = (if gd then 0 else 3) ∧ ((gd = true → PolyN w8 A1 l1 c1 (pexq h g)) ∧ (gd = false → l1 = 0)) ∧ Below w7.heap.size w7 w8 := by
          rcases h8 with ⟨r0, A1, l1, c1, r1, r2, r3⟩ | ⟨r0, r1, r3⟩
          · exact ⟨A1, l1, c1, 0, true, r1, ⟨fun _ => r0, fun _ => rfl⟩, rfl, ⟨fun _ => r2, fun h => by cases h⟩, r3⟩
          · exact ⟨none, 0, 0, 3, false, r1, ⟨fun h => (by cases h), fun h => absurd h r0⟩, rfl, ⟨fun h => (by cases h), fun _ => rfl⟩, r3⟩
        have HQ := Lib.hid h8p
        have Hgd := Lib.hid hgd
        have Her := Lib.hid her
        replace HP := Lib.hid (HP.out.below ikN hb8)
        replace HX := Lib.hid (HX.out.below hb8)
        replace HY := Lib.hid (HY.out.below hb8)
        replace HF := Lib.hid (HF.out.below ikAt hb8); replace HG := Lib.hid (HG.out.below ikAt hb8); replace HH := Lib.hid (HH.out.below ikAt hb8); replace Hb := Lib.hid (Hb.out.trans (hb8.mono Hb.out.size))
        clear h8 h8p hb8 hgd her
        go_wp2_with fail
        refine (lis_any _ _ _ (ptrim f) _ _ _ _ HP.out HX.out (by omega) (ZB.mono F7.out.zb (by decide))).mono ?_
        rintro e w9 ⟨rfl, hb9⟩
        replace HQ := Lib.hid (show (gd = true → PolyN w9 A8 l8 c8 (pexq h g)) ∧ (gd = false → l8 = 0) from ⟨fun e => (HQ.out.1 e).below ikN hb9, HQ.out.2⟩)
        replace HY := Lib.hid (HY.out.below hb9)
        replace HF := Lib.hid (HF.out.below ikAt hb9); replace HG := Lib.hid (HG.out.below ikAt hb9); replace HH := Lib.hid (HH.out.below ikAt hb9); replace Hb := Lib.hid (Hb.out.trans (hb9.mono Hb.out.size))
        clear hb9 HP HX
        go_wp2_with fail
        refine (polymul_any ikAt ikAt _ _ _ f _ _ _ g _ HF.out HG.out F7.out.fit G7.out.fit (by omega) (by omega)).mono ?_
        rintro e w10 ⟨A10, l10, c10, rfl, h10, hb10⟩
        have hl10 : l10 ≤ 14 := by rw [← h10.length]; exact Hml.out
        have HM := Lib.hid h10
        replace HQ := Lib.hid (show (gd = true → PolyN w10 A8 l8 c8 (pexq h g)) ∧ (gd = false → l8 = 0) from ⟨fun e => (HQ.out.1 e).below ikN hb10, HQ.out.2⟩)
        replace HY := Lib.hid (HY.out.below hb10)
        replace HF := Lib.hid (HF.out.below ikAt hb10); replace HG := Lib.hid (HG.out.below ikAt hb10); replace HH := Lib.hid (HH.out.below ikAt hb10); replace Hb := Lib.hid (Hb.out.trans (hb10.mono Hb.out.size))
        have Hdv := Lib.hid (show decide (psr (polymul (ptrim f) (ptrim g)) g = []) = true from decide_eq_true ((psr_nil_iff (f := g) (by have := G1.out; omega)).2 ⟨1, ptrim f, by decide, fun x => by rw [Int.one_mul, ev_mul, ev_trim g]⟩))
        clear h10 hb10
        go_wp2_with fail
        refine (divides_any ikAt ikN _ _ _ g _ _ _ (polymul (ptrim f) (ptrim g)) 6 _ HG.out HM.out Hmd.out G7.out.fit (by omega) (by omega) (by omega)).mono ?_
        rintro e w11 ⟨rfl, hb11⟩
        rw [if_neg G0.out, Hdv.out]
        replace HQ := Lib.hid (show (gd = true → PolyN w11 A8 l8 c8 (pexq h g)) ∧ (gd = false → l8 = 0) from ⟨fun e => (HQ.out.1 e).below ikN hb11, HQ.out.2⟩)
        replace HY := Lib.hid (HY.out.below hb11)
        replace HF := Lib.hid (HF.out.below ikAt hb11); replace HG := Lib.hid (HG.out.below ikAt hb11); replace HH := Lib.hid (HH.out.below ikAt hb11); replace Hb := Lib.hid (Hb.out.trans (hb11.mono Hb.out.size))
        clear hb11 HM Hdv
        go_wp2_with fail
        refine (lof_any ikAt _ _ _ h _ HH.out (by omega) (fun j => Nat.le_trans (H7.out.dl j) (by decide))).mono ?_
        rintro e w12 ⟨A12, l12, c12, rfl, h12, _, hb12⟩
        have hl12 : l12 = plen h := by rw [← h12.length, ptrim_length]
        subst hl12
        have HW := Lib.hid h12
        replace HQ := Lib.hid (show (gd = true → PolyN w12 A8 l8 c8 (pexq h g)) ∧ (gd = false → l8 = 0) from ⟨fun e => (HQ.out.1 e).below ikN hb12, HQ.out.2⟩)
        replace HY := Lib.hid (HY.out.below hb12)
        replace HF := Lib.hid (HF.out.below ikAt hb12); replace HG := Lib.hid (HG.out.below ikAt hb12); replace HH := Lib.hid (HH.out.below ikAt hb12); replace Hb := Lib.hid (Hb.out.trans (hb12.mono Hb.out.size))
        clear h12 hb12
        go_wp2_with fail
        refine (zpexact_any _ _ _ (ptrim h) _ _ _ (ptrim g) _ HW.out HY.out (ptrim_ptrim h) (ptrim_ptrim g) (by have := G1.out; omega) (by omega) (by omega) (X := 18446744073709551616) (Y := 18446744073709551616) (E := 1000) (fun j => by rw [ptrim_getD]; exact H7.out.2 j) (fun j => by rw [ptrim_getD]; exact G7.out.2 j) (by decide) (by decide +kernel) (by decide)).mono ?_
        rintro e w13 ⟨A13, l13, c13, h13⟩
        obtain ⟨rfl, hz13, hb13⟩ : e = .returned (.tuple #[.slice A13 l13 c13, .bool gd]) ∧ (gd = true → ZP w13 A13 l13 c13 (pexq h g)) ∧ Below w12.heap.size w12 w13 := by
          rcases h13 with ⟨r0, r1, r2, r3⟩ | ⟨r0, r1, r3⟩
          · have : gd = true := Hgd.out.2 (X1.out.1 r0)
            rw [this]
            exact ⟨r1, fun _ => by rw [← X2.out (X1.out.1 r0)]; exact r2, r3⟩
          · have : gd = false := by
              cases gd with
              | false => rfl
              | true => exact absurd (X1.out.2 (Hgd.out.1 rfl)) r0
            rw [this]
            exact ⟨r1, fun h => (by cases h), r3⟩
        have HZ := Lib.hid hz13
        replace HQ := Lib.hid (show (gd = true → PolyN w13 A8 l8 c8 (pexq h g)) ∧ (gd = false → l8 = 0) from ⟨fun e => (HQ.out.1 e).below ikN hb13, HQ.out.2⟩)
        replace HY := Lib.hid (HY.out.below hb13)
        replace HW := Lib.hid (HW.out.below hb13)
        replace HF := Lib.hid (HF.out.below ikAt hb13); replace HG := Lib.hid (HG.out.below ikAt hb13); replace HH := Lib.hid (HH.out.below ikAt hb13); replace Hb := Lib.hid (Hb.out.trans (hb13.mono Hb.out.size))
        clear h13 hz13 hb13
        go_wp2_with fail
        refine (rpseudo_any _ _ _ (ptrim h) _ _ _ (ptrim g) _ HW.out HY.out (by omega) (by omega) (by have := G1.out; omega) (M := 18446744073709551616) (E := 64) (by decide) (by decide) (by decide) (fun j => by rw [ptrim_getD]; exact H7.out.2 j) (fun j => by rw [ptrim_getD]; exact G7.out.2 j)).mono ?_
        rintro e w14 ⟨A14, l14, c14, A15, l15, c15, rfl, _, hr14, hb14⟩
        rw [rrun_ps (f := h) G1.out] at hr14
        have hl15 := hr14.length
        have hz15 : (((l15 : Nat) : Int) == 0) = decide (psr h g = []) := by
          rw [← hl15]
          cases hps : psr h g with
          | nil => simp
          | cons a t => simp; omega
        replace HQ := Lib.hid (show (gd = true → PolyN w14 A8 l8 c8 (pexq h g)) ∧ (gd = false → l8 = 0) from ⟨fun e => (HQ.out.1 e).below ikN hb14, HQ.out.2⟩)
        replace HZ := Lib.hid (show gd = true → ZP w14 A13 l13 c13 (pexq h g) from fun e => (HZ.out e).below hb14)
        replace HF := Lib.hid (HF.out.below ikAt hb14); replace HG := Lib.hid (HG.out.below ikAt hb14); replace HH := Lib.hid (HH.out.below ikAt hb14); replace Hb := Lib.hid (Hb.out.trans (hb14.mono Hb.out.size))
        have Hz15 := Lib.hid hz15
        clear hr14 hb14 HW HY hl15 hz15
        go_wp2_with fail
        refine (divides_any ikAt ikAt _ _ _ g _ _ _ h 3 _ HG.out HH.out H7.out.dl G7.out.fit (by omega) (by omega) (by omega)).mono ?_
        rintro e w15 ⟨rfl, hb15⟩
        rw [if_neg G0.out]
        obtain ⟨bd, hbd⟩ : ∃ bd, bd = decide (psr h g = []) := ⟨_, rfl⟩
        rw [← hbd]
        have t9 : (bd == (((l15 : Nat) : Int) == 0)) = true := by rw [Hz15.out, ← hbd]; simp
        replace HQ := Lib.hid (show (gd = true → PolyN w15 A8 l8 c8 (pexq h g)) ∧ (gd = false → l8 = 0) from ⟨fun e => (HQ.out.1 e).below ikN hb15, HQ.out.2⟩)
        replace HZ := Lib.hid (show gd = true → ZP w15 A13 l13 c13 (pexq h g) from fun e => (HZ.out e).below hb15)
        replace HF := Lib.hid (HF.out.below ikAt hb15); replace HG := Lib.hid (HG.out.below ikAt hb15); replace HH := Lib.hid (HH.out.below ikAt hb15); replace Hb := Lib.hid (Hb.out.trans (hb15.mono Hb.out.size))
        clear hb15 hbd Hz15
        cases gd with
        | false =>
          have he0 : er = 3 := Her.out
          have hl8 : l8 = 0 := HQ.out.2 rfl
          subst he0
          subst hl8
          go_wp2
          go_ret
          exact ⟨rfl, Hb.out⟩
        | true =>
          have he0 : er = 0 := Her.out
          subst he0
          have hq := HQ.out.1 rfl
          have hz := HZ.out rfl
          have hl8 : l8 ≤ 1000 := by rw [← hq.length, pexq_length]; omega
          have HQ2 := Lib.hid hq
          have HZ2 := Lib.hid hz
          have Zq := Lib.hid (pexq_zb H7.out G7.out)
          clear hq hz HQ HZ
          go_wp2_with fail
          refine (lis_any _ _ _ (pexq h g) _ _ _ _ HQ2.out HZ2.out hl8 Zq.out).mono ?_
          rintro e w16 ⟨rfl, hb16⟩
          replace HF := Lib.hid (HF.out.below ikAt hb16); replace HG := Lib.hid (HG.out.below ikAt hb16); replace HH := Lib.hid (HH.out.below ikAt hb16); replace Hb := Lib.hid (Hb.out.trans (hb16.mono Hb.out.size))
          clear hb16
          go_wp2
          go_ret
          exact ⟨rfl, Hb.out⟩
end Go.Proofs.YtgblfpkfapmlnaaGreat
