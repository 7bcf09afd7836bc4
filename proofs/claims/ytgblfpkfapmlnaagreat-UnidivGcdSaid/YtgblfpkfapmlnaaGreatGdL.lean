/- The walk of the law UnidivGcd: it answers true, and only makes new memory. -/
import Derived.Test.YtgblfpkfapmlnaaGreatFew
import Derived.Test.YtgblfpkfapmlnaaGreatLcp
import Derived.Test.YtgblfpkfapmlnaaGreatZgd
import Derived.Test.YtgblfpkfapmlnaaGreatZmu
import Derived.Test.YtgblfpkfapmlnaaGreatBtr
namespace Go.Proofs.YtgblfpkfapmlnaaGreat
open Go Go.RowKit

set_option maxRecDepth 100000 in
set_option maxHeartbeats 8000000 in
theorem law_gcd (A : Option Addr) (la ca : Nat) (f : List Int) (B : Option Addr) (lb cb : Nat) (g : List Int) (w : World) (hf : PolyP IntR w A la ca f) (hg : PolyP IntR w B lb cb g) :
    Calls Tryz.prog 5 #[.slice A la ca, .slice B lb cb] w fun e w' => e = .returned (.bool true) ∧ Below w.heap.size w w' := by
  go_enter Tryz.func5, Tryz.ntmps5
  go_wp2_with fail
  refine (awake9_any _).mono ?_
  rintro e w1 ⟨rfl, hb1⟩
  have hf1 := PolyR.below hf hb1
  have hg1 := PolyR.below hg hb1
  have Hb := Lib.hid hb1
  clear hf hg hb1
  go_wp2_with fail
  refine (few_any 7 2 _ _ _ _ _ _ _ _ _ hf1 hg1 (by omega) (by omega)).mono ?_
  rintro e w2 ⟨⟨b, rfl, hq⟩, rfl⟩
  clear hf1 hg1
  cases b with
  | false =>
    clear hq
    go_wp2_with fail
    refine (awake9_any _).mono ?_; rintro e wb ⟨rfl, hbb⟩; replace Hb := Lib.hid (Hb.out.trans (hbb.mono Hb.out.size)); clear hbb; go_wp2; go_ret; exact ⟨rfl, Hb.out⟩
  | true =>
    obtain ⟨qf, qg⟩ := hq rfl
    clear hq
    have hla := qf.le
    have hlb := qg.le
    have HF := Lib.hid qf.at_
    have HG := Lib.hid qg.at_
    have f7 := fewg7 qf
    have g7 := fewg7 qg
    have F7 := Lib.hid f7
    have G7 := Lib.hid g7
    have pf7 := f7.1
    have pg7 := g7.1
    have hdt := gres_dt f7 g7
    have hdq := hdt.l
    have Hdp := Lib.hid (show plen (gres f g) = (gres f g).length by have := congrArg List.length hdt.t; rwa [ptrim_length] at this)
    have Dz := Lib.hid (show ZB 100000 (gres f g) from fun j => Nat.le_trans (bln_mono (hdt.b j)) (by decide +kernel))
    have Df := Lib.hid hdt.fit
    have Lok := Lib.hid (plcm_ok f7 g7)
    clear qf qg f7 g7 hdt
    go_wp2_with fail
    refine (lof_any ikAt _ _ _ f _ HF.out (by omega) (gd_dl F7.out)).mono ?_
    rintro e w4 ⟨A4, l4, c4, rfl, h4, _, hb4⟩
    have hl4 : l4 = plen f := by rw [← h4.length, ptrim_length]
    subst hl4
    have HX := Lib.hid h4
    replace HF := Lib.hid (HF.out.below ikAt hb4); replace HG := Lib.hid (HG.out.below ikAt hb4); replace Hb := Lib.hid (Hb.out.trans (hb4.mono Hb.out.size))
    clear h4 hb4
    go_wp2_with fail
    refine (lof_any ikAt _ _ _ g _ HG.out (by omega) (gd_dl G7.out)).mono ?_
    rintro e w5 ⟨A5, l5, c5, rfl, h5, _, hb5⟩
    have hl5 : l5 = plen g := by rw [← h5.length, ptrim_length]
    subst hl5
    have HY := Lib.hid h5
    replace HX := Lib.hid (HX.out.below hb5)
    replace HF := Lib.hid (HF.out.below ikAt hb5); replace HG := Lib.hid (HG.out.below ikAt hb5); replace Hb := Lib.hid (Hb.out.trans (hb5.mono Hb.out.size))
    clear h5 hb5
    go_wp2_with fail
    refine (zpgcd_any _ _ _ f _ _ _ g _ HX.out HY.out F7.out G7.out).mono ?_
    rintro e w6 ⟨A6, l6, c6, rfl, h6, _, hb6⟩
    have hl6 : l6 = plen (gres f g) := by rw [← h6.length, Hdp.out]
    subst hl6
    have HD := Lib.hid h6
    replace HX := Lib.hid (HX.out.below hb6)
    replace HY := Lib.hid (HY.out.below hb6)
    replace HF := Lib.hid (HF.out.below ikAt hb6); replace HG := Lib.hid (HG.out.below ikAt hb6); replace Hb := Lib.hid (Hb.out.trans (hb6.mono Hb.out.size))
    clear h6 hb6
    go_wp2_with fail
    refine (gcd_any ikAt ikAt _ _ _ f _ _ _ g _ HF.out HG.out F7.out.fit.smp G7.out.fit.smp (by omega) (by omega) (few7_ga F7.out G7.out)).mono ?_
    rintro e w7 ⟨A7, l7, c7, rfl, h7, hb7⟩
    have hl7 : l7 = plen (gres f g) := by rw [← h7.length, Hdp.out]
    subst hl7
    have HP := Lib.hid h7
    replace HX := Lib.hid (HX.out.below hb7)
    replace HY := Lib.hid (HY.out.below hb7)
    replace HD := Lib.hid (HD.out.below hb7)
    replace HF := Lib.hid (HF.out.below ikAt hb7); replace HG := Lib.hid (HG.out.below ikAt hb7); replace Hb := Lib.hid (Hb.out.trans (hb7.mono Hb.out.size))
    clear h7 hb7
    go_wp2_with fail
    refine (lis_any _ _ _ (gres f g) _ _ _ _ HP.out HD.out (by omega) (ZB.mono Dz.out (by decide))).mono ?_
    rintro e w8 ⟨rfl, hb8⟩
    replace HX := Lib.hid (HX.out.below hb8)
    replace HY := Lib.hid (HY.out.below hb8)
    replace HD := Lib.hid (HD.out.below hb8)
    replace HF := Lib.hid (HF.out.below ikAt hb8); replace HG := Lib.hid (HG.out.below ikAt hb8); replace Hb := Lib.hid (Hb.out.trans (hb8.mono Hb.out.size))
    clear hb8 HP
    go_wp2_with fail
    refine (coprime_any ikAt ikAt _ _ _ f _ _ _ g _ HF.out HG.out F7.out.fit.smp G7.out.fit.smp (by omega) (by omega) (few7_ga F7.out G7.out) Df.out.smp (by have := Hdp.out; omega)).mono ?_
    rintro e w9 ⟨rfl, hb9⟩
    obtain ⟨bd, hbd⟩ : ∃ bd, bd = decide (plen (gres f g) = 1) := ⟨_, rfl⟩
    rw [← hbd]
    have t8 : (((plen (gres f g) : Nat) : Int) == 1) = bd := by rw [hbd, Bool.eq_iff_iff, beq_iff_eq, decide_eq_true_eq]; omega
    have t9 : (bd == (((plen (gres f g) : Nat) : Int) == 1)) = true := by rw [t8]; exact beq_self_eq_true _
    replace HX := Lib.hid (HX.out.below hb9)
    replace HY := Lib.hid (HY.out.below hb9)
    replace HD := Lib.hid (HD.out.below hb9)
    replace HF := Lib.hid (HF.out.below ikAt hb9); replace HG := Lib.hid (HG.out.below ikAt hb9); replace Hb := Lib.hid (Hb.out.trans (hb9.mono Hb.out.size))
    clear hb9 hbd t8
    go_wp2_with fail
    refine (lcm_any ikAt ikAt _ _ _ f _ _ _ g _ HF.out HG.out (by omega) (by omega) F7.out G7.out).mono ?_
    rintro e w10 ⟨A10, l10, c10, rfl, h10, hb10⟩
    have hl10 : l10 = (plcm f g).length := by rw [← h10.length]
    have HL := Lib.hid h10
    replace HX := Lib.hid (HX.out.below hb10)
    replace HY := Lib.hid (HY.out.below hb10)
    replace HD := Lib.hid (HD.out.below hb10)
    replace Hb := Lib.hid (Hb.out.trans (hb10.mono Hb.out.size))
    clear h10 hb10 HF HG t9
    by_cases f0 : plen f = 0
    · have hz : plcm f g = [] := by unfold plcm; rw [if_pos (.inl f0)]
      have hl0 : l10 = 0 := by rw [hl10, hz]; rfl
      subst hl0
      have t1 : (((plen f : Nat) : Int) == 0) = true := by rw [f0]; rfl
      clear hl10 hz f0 HL HX HY HD
      go_wp2; go_ret; exact ⟨rfl, Hb.out⟩
    · have t1 : (((plen f : Nat) : Int) == 0) = false := by rw [beq_eq_false_iff_ne]; omega
      have F0 := Lib.hid f0
      by_cases g0 : plen g = 0
      · have hz : plcm f g = [] := by unfold plcm; rw [if_pos (.inr g0)]
        have hl0 : l10 = 0 := by rw [hl10, hz]; rfl
        subst hl0
        have t2 : (((plen g : Nat) : Int) == 0) = true := by rw [g0]; rfl
        clear hl10 hz g0 f0 HL HX HY HD
        go_wp2; go_ret; exact ⟨rfl, Hb.out⟩
      · have t2 : (((plen g : Nat) : Int) == 0) = false := by rw [beq_eq_false_iff_ne]; omega
        have G0 := Lib.hid g0
        obtain ⟨m1, m2⟩ := lcm_mul F7.out G7.out f0 g0
        have M1 := Lib.hid m1
        have M2 := Lib.hid m2
        obtain ⟨P, hP⟩ : ∃ P, P = polymul (ptrim f) (ptrim g) := ⟨_, rfl⟩
        have hPb := gd_mul_bd F7.out G7.out
        have hP0 : plen P ≠ 0 := by rw [hP]; have := (plen_mul (f := ptrim f) (g := ptrim g) (by rw [plen_ptrim]; omega) (by rw [plen_ptrim]; omega)).1; rw [plen_ptrim, plen_ptrim] at this; omega
        have hPl : plen P ≤ 14 := by rw [hP]; have := (plen_mul (f := ptrim f) (g := ptrim g) (by rw [plen_ptrim]; omega) (by rw [plen_ptrim]; omega)).1; rw [plen_ptrim, plen_ptrim] at this; omega
        rw [← hP] at hPb m1
        have HPe := Lib.hid hP
        have M1 := Lib.hid m1
        have Pb := Lib.hid hPb
        have Pz := Lib.hid (show ZB 100000 (ptrim P) from fun j => by rw [ptrim_getD]; exact Nat.le_trans (bln_mono (hPb j)) (by decide +kernel))
        have Pq := Lib.hid (show ZB 100000 (ppos P) from fun j => Nat.le_trans (bln_mono (ppos_bd hPb j)) (by decide +kernel))
        have Lz := Lib.hid (show ∀ j, dlen ((plcm f g).getD j 0).natAbs ≤ 1000 from fun j => Nat.le_trans (dlen_le_of_lt (k := 20) (Nat.lt_of_le_of_lt (Lok.out.2 j) (by rw [BB_eq]; decide +kernel))) (by decide))
        have hll : l10 ≤ 14 := by rw [hl10]; exact Lok.out.1
        clear m1 m2 hP hPb g0 f0 hl10
        go_wp2_with fail
        refine (zpmul_any _ _ _ (ptrim f) _ _ _ (ptrim g) _ HX.out HY.out (by have := F0.out; omega) (by omega) (by omega) (X := 18446744073709551616) (Y := 18446744073709551616) (E := 500) (fun j => by rw [ptrim_getD]; exact F7.out.2 j) (fun j => by rw [ptrim_getD]; exact G7.out.2 j) (by decide +kernel) (by decide +kernel) (by decide +kernel) (by decide)).mono ?_
        rintro e w11 ⟨A11, l11, c11, rfl, h11, _, hb11⟩
        rw [← HPe.out] at h11
        have hl11 : l11 = plen P := by rw [← h11.length, ptrim_length]
        subst hl11
        have HM := Lib.hid h11
        replace HD := Lib.hid (HD.out.below hb11)
        replace HL := Lib.hid (HL.out.below ikN hb11)
        replace Hb := Lib.hid (Hb.out.trans (hb11.mono Hb.out.size))
        clear h11 hb11 HX HY
        go_wp2_with fail
        refine (zlead_any _ _ _ (ptrim P) _ HM.out (by omega) (by omega)).mono ?_
        rintro e w12 ⟨s3, A3, l3, c3, rfl, h3, hb12⟩
        have hsg := h3.sign
        have hfd : ∀ w : World, (Instr.field 50 (.agg #[.int .i64 s3, .slice A3 l3 c3]) 0).run Tryz.prog w = .ok (.int .i64 s3) w := fun _ => by kernel_rfl
        rw [ptrim_getD, show P.getD (plen P - 1) 0 = plead P from rfl] at hsg
        replace HM := Lib.hid (HM.out.below hb12)
        replace HD := Lib.hid (HD.out.below hb12)
        replace HL := Lib.hid (HL.out.below ikN hb12)
        replace Hb := Lib.hid (Hb.out.trans (hb12.mono Hb.out.size))
        clear h3 hb12
        by_cases hn : plead P < 0
        · have hs : s3 = -1 := by rw [hsg]; exact sg_neg hn
          subst hs
          have hr : zsc (ptrim P) (-1) = ppos P := by rw [zsc_pmn]; unfold ppos; rw [if_pos hn]
          have Hr := Lib.hid hr
          clear hsg hn hr
          go_wp2_with fail
          refine (zneg_any _ _ _ (ptrim P) _ HM.out (by omega) (ZB.mono Pz.out (by decide))).mono ?_
          rintro e w14 ⟨A14, l14, c14, rfl, h14, _, hb14⟩
          rw [Hr.out] at h14
          have hl14 : l14 ≤ 14 := by rw [← h14.length, ppos_length]; exact hPl
          have HR := Lib.hid h14
          replace HD := Lib.hid (HD.out.below hb14)
          replace HL := Lib.hid (HL.out.below ikN hb14)
          replace Hb := Lib.hid (Hb.out.trans (hb14.mono Hb.out.size))
          clear h14 hb14 hfd HM
          go_wp2_with fail
          refine (lof_any ikN _ _ _ (plcm f g) _ HL.out (by omega) Lz.out).mono ?_
          rintro e w15 ⟨A15, l15, c15, rfl, h15, _, hb15⟩
          have hl15 : l15 = plen (plcm f g) := by rw [← h15.length, ptrim_length]
          subst hl15
          have HW := Lib.hid h15
          have hw0 := M2.out
          have hw1 : plen (plcm f g) ≤ 14 := Nat.le_trans (plen_le _) Lok.out.1
          replace HD := Lib.hid (HD.out.below hb15)
          replace HR := Lib.hid (HR.out.below hb15)
          replace Hb := Lib.hid (Hb.out.trans (hb15.mono Hb.out.size))
          clear h15 hb15 HL
          go_wp2_with fail
          refine (zpmul_any _ _ _ (ptrim (plcm f g)) _ _ _ (gres f g) _ HW.out HD.out (by omega) (by omega) (by omega) (X := lcB) (Y := gdB) (E := 600) (fun j => by rw [ptrim_getD]; exact Lok.out.2 j) (fun j => (gres_bd F7.out G7.out F0.out j).1) (by decide +kernel) (by decide +kernel) (by decide +kernel) (by decide)).mono ?_
          rintro e w16 ⟨A16, l16, c16, rfl, h16, _, hb16⟩
          rw [M1.out] at h16
          have hl16 : l16 ≤ 14 := by rw [← h16.length, ppos_length]; exact hPl
          have HT := Lib.hid h16
          replace HR := Lib.hid (HR.out.below hb16)
          replace Hb := Lib.hid (Hb.out.trans (hb16.mono Hb.out.size))
          clear h16 hb16 HW HD
          go_wp2_with fail
          refine (zpsame_any _ _ _ (ppos P) _ _ _ _ HT.out HR.out (by omega) (ZB.mono Pq.out (by decide))).mono ?_
          rintro e w17 ⟨rfl, hb17⟩
          replace Hb := Lib.hid (Hb.out.trans (hb17.mono Hb.out.size))
          clear hb17
          go_wp2; go_ret; exact ⟨rfl, Hb.out⟩
        · have hr : ptrim P = ppos P := by unfold ppos; rw [if_neg hn]
          have hs : ¬ s3 < 0 := by
            rw [hsg]
            unfold sg
            split <;> omega
          have hs' : decide (s3 < 0) = false := decide_eq_false hs
          rw [hr] at HM
          have HR := HM
          have hl14 : plen P ≤ 14 := hPl
          clear hsg hn hr
          clear HM
          go_wp2_with fail
          refine (lof_any ikN _ _ _ (plcm f g) _ HL.out (by omega) Lz.out).mono ?_
          rintro e w15 ⟨A15, l15, c15, rfl, h15, _, hb15⟩
          have hl15 : l15 = plen (plcm f g) := by rw [← h15.length, ptrim_length]
          subst hl15
          have HW := Lib.hid h15
          have hw0 := M2.out
          have hw1 : plen (plcm f g) ≤ 14 := Nat.le_trans (plen_le _) Lok.out.1
          replace HD := Lib.hid (HD.out.below hb15)
          replace HR := Lib.hid (HR.out.below hb15)
          replace Hb := Lib.hid (Hb.out.trans (hb15.mono Hb.out.size))
          clear h15 hb15 HL
          go_wp2_with fail
          refine (zpmul_any _ _ _ (ptrim (plcm f g)) _ _ _ (gres f g) _ HW.out HD.out (by omega) (by omega) (by omega) (X := lcB) (Y := gdB) (E := 600) (fun j => by rw [ptrim_getD]; exact Lok.out.2 j) (fun j => (gres_bd F7.out G7.out F0.out j).1) (by decide +kernel) (by decide +kernel) (by decide +kernel) (by decide)).mono ?_
          rintro e w16 ⟨A16, l16, c16, rfl, h16, _, hb16⟩
          rw [M1.out] at h16
          have hl16 : l16 ≤ 14 := by rw [← h16.length, ppos_length]; exact hPl
          have HT := Lib.hid h16
          replace HR := Lib.hid (HR.out.below hb16)
          replace Hb := Lib.hid (Hb.out.trans (hb16.mono Hb.out.size))
          clear h16 hb16 HW HD
          go_wp2_with fail
          refine (zpsame_any _ _ _ (ppos P) _ _ _ _ HT.out HR.out (by omega) (ZB.mono Pq.out (by decide))).mono ?_
          rintro e w17 ⟨rfl, hb17⟩
          replace Hb := Lib.hid (Hb.out.trans (hb17.mono Hb.out.size))
          clear hb17
          go_wp2; go_ret; exact ⟨rfl, Hb.out⟩
end Go.Proofs.YtgblfpkfapmlnaaGreat
