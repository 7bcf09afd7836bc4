/- The walk of the law UnidivCommon: it answers true, and only makes new memory. -/
import Derived.Test.YtgblfpkfapmlnaaGcx
import Derived.Test.YtgblfpkfapmlnaaGtn
import Derived.Test.YtgblfpkfapmlnaaFew
import Derived.Test.YtgblfpkfapmlnaaCmp
namespace Go.Proofs.Ytgblfpkfapmlnaa
open Go.RowKit

theorem fewq5 {w : World} {A : Option Addr} {len cap : Nat} {p : List Int} (h : FewQ w 5 1 A len cap p) : Few5 p := by
  refine ⟨by have h1 := plen_le p; have h2 := h.at_.length; have h3 := h.le; omega, fun j => ?_⟩
  have := h.lt j
  rw [Nat.pow_one, BB_eq] at this
  omega
theorem ppos_fit {p : List Int} (h : FitP p) : FitP (ppos p) := fun k => by
  have hk := h k
  unfold Fit at hk ⊢
  rcases ppos_or p with ⟨h1, _⟩ | ⟨h1, _⟩
  · rw [h1]; exact hk
  · rw [h1, Int.natAbs_neg]; exact hk

set_option maxRecDepth 100000 in
set_option maxHeartbeats 8000000 in
theorem law_common (A : Option Addr) (la ca : Nat) (f : List Int) (B : Option Addr) (lb cb : Nat) (g : List Int) (C : Option Addr) (lc cc : Nat) (h : List Int) (w : World) (hf : PolyP IntR w A la ca f) (hg : PolyP IntR w B lb cb g) (hh : PolyP IntR w C lc cc h) :
    Calls Try.prog 5 #[.slice A la ca, .slice B lb cb, .slice C lc cc] w fun e w' => e = .returned (.bool true) ∧ Below w.heap.size w w' := by
  go_enter Try.func5, Try.ntmps5
  go_wp2_with fail
  refine (awake9_any _).mono ?_
  rintro e w1 ⟨rfl, hb1⟩
  have hf1 := PolyR.below hf hb1
  have hg1 := PolyR.below hg hb1
  have hh1 := PolyR.below hh hb1
  have Hb := Lib.hid hb1
  clear hf hg hh hb1
  go_wp2_with fail
  refine (few_any 5 1 _ _ _ _ _ _ _ _ _ hf1 hg1 (by omega) (by omega)).mono ?_
  rintro e w2 ⟨⟨b, rfl, hq⟩, rfl⟩
  clear hf1 hg1
  cases b with
  | false =>
    clear hq hh1
    go_wp2_with fail
    refine (awake9_any _).mono ?_; rintro e wb ⟨rfl, hbb⟩; replace Hb := Lib.hid (Hb.out.trans (hbb.mono Hb.out.size)); clear hbb; go_wp2; go_ret; exact ⟨rfl, Hb.out⟩
  | true =>
    obtain ⟨qf, qg⟩ := hq rfl
    clear hq
    go_wp2_with fail
    refine (few1_any 5 1 _ _ _ _ _ hh1 (by omega) (by omega)).mono ?_
    rintro e w3 ⟨⟨b, rfl, hq⟩, rfl⟩
    cases b with
    | false =>
      clear hq hh1 qf qg
      go_wp2_with fail
      refine (awake9_any _).mono ?_; rintro e wb ⟨rfl, hbb⟩; replace Hb := Lib.hid (Hb.out.trans (hbb.mono Hb.out.size)); clear hbb; go_wp2; go_ret; exact ⟨rfl, Hb.out⟩
    | true =>
      have qh := hq rfl
      clear hq hh1
      have Ff := fewq5 qf
      have Fg := fewq5 qg
      have Fh := fewq5 qh
      have hla := qf.le
      have hlb := qg.le
      have hlc := qh.le
      have HF := Lib.hid qf.at_
      have HG := Lib.hid qg.at_
      have HH := Lib.hid qh.at_
      have E1 := Lib.hid (com_mul Ff Fg Fh)
      have E2 := Lib.hid (com_symm Ff Fg)
      have E3 := Lib.hid (com_assoc Ff Fg Fh)
      have sf := Ff.fit.smp
      have sg' := Fg.fit.smp
      have sh := Fh.fit.smp
      have ffit := Ff.fit
      have gfit := Fg.fit
      have hfit := Fh.fit
      have Dd := gres_ds Ff Fg
      have Dd' := gres_ds Fg Ff
      have De := gres_ds Fg Fh
      have g1 := few_ga Ff Fg
      have g2 := mul_ga Ff.trim Fg.trim Fh.trim
      have g3 := few_ga Fg Ff
      have g4 := few_ga Fg Fh
      have g5 := ds_ga Dd Fh
      have g6 := (ds_ga De Ff).symm
      have smf : FitP (polymul (ptrim f) (ptrim h)) := small_mul Ff.trim Fh.trim
      have smg : FitP (polymul (ptrim g) (ptrim h)) := small_mul Fg.trim Fh.trim
      have lmf : (polymul (ptrim f) (ptrim h)).length ≤ 10 := small_mul_len Ff Fh
      have lmg : (polymul (ptrim g) (ptrim h)).length ≤ 10 := small_mul_len Fg Fh
      clear qf qg qh
      go_wp2_with fail
      refine (gcd_any ikAt ikAt _ _ _ f _ _ _ g _ HF.out HG.out sf sg' (by omega) (by omega) g1).mono ?_
      rintro e w4 ⟨A4, l4, c4, rfl, h4, hb4⟩
      obtain ⟨d, hd⟩ : ∃ d, d = gres f g := ⟨_, rfl⟩
      rw [← hd] at h4 Dd g5
      have hl4 : l4 ≤ 5 := by have h1 := h4.length; have h2 := Dd.l; rw [← Dd.t, ptrim_length] at h1; omega
      have HD := Lib.hid h4
      replace HF := Lib.hid (HF.out.below ikAt hb4); replace HG := Lib.hid (HG.out.below ikAt hb4); replace HH := Lib.hid (HH.out.below ikAt hb4); replace Hb := Lib.hid (Hb.out.trans (hb4.mono Hb.out.size))
      have Hd := Lib.hid hd
      clear h4 hb4 hd
      go_wp2_with fail
      refine (polymul_any ikAt ikAt _ _ _ f _ _ _ h _ HF.out HH.out ffit hfit (by omega) (by omega)).mono ?_
      rintro e w5 ⟨A5, l5, c5, rfl, h5, hb5⟩
      have hl5 : l5 ≤ 10 := by have h1 := h5.length; omega
      have HM := Lib.hid h5
      replace HF := Lib.hid (HF.out.below ikAt hb5); replace HG := Lib.hid (HG.out.below ikAt hb5); replace HH := Lib.hid (HH.out.below ikAt hb5); replace Hb := Lib.hid (Hb.out.trans (hb5.mono Hb.out.size))
      replace HD := Lib.hid (HD.out.below ikN hb5)
      clear h5 hb5
      go_wp2_with fail
      refine (polymul_any ikAt ikAt _ _ _ g _ _ _ h _ HG.out HH.out gfit hfit (by omega) (by omega)).mono ?_
      rintro e w6 ⟨A6, l6, c6, rfl, h6, hb6⟩
      have hl6 : l6 ≤ 10 := by have h1 := h6.length; omega
      have HN := Lib.hid h6
      replace HF := Lib.hid (HF.out.below ikAt hb6); replace HG := Lib.hid (HG.out.below ikAt hb6); replace HH := Lib.hid (HH.out.below ikAt hb6); replace Hb := Lib.hid (Hb.out.trans (hb6.mono Hb.out.size))
      replace HD := Lib.hid (HD.out.below ikN hb6)
      replace HM := Lib.hid (HM.out.below ikN hb6)
      clear h6 hb6
      go_wp2_with fail
      refine (gcd_any ikN ikN _ _ _ (polymul (ptrim f) (ptrim h)) _ _ _ (polymul (ptrim g) (ptrim h)) _ HM.out HN.out smf.smp smg.smp (by omega) (by omega) g2).mono ?_
      rintro e w7 ⟨A7, l7, c7, rfl, h7, hb7⟩
      rw [E1.out, ← Hd.out] at h7
      obtain ⟨W, hW⟩ : ∃ W, W = polymul d (ptrim h) := ⟨_, rfl⟩
      rw [← hW] at h7
      have fitW : FitP W := by rw [hW]; exact ds_mul Dd Fh.trim
      have lenW : W.length ≤ 10 := by rw [hW]; exact ds_mul_len Dd Fh
      have HW := Lib.hid hW
      have fitO := ppos_fit fitW
      have hl7 : l7 ≤ 10 := by have h1 := h7.length; have h2 := ppos_len W; omega
      have HO := Lib.hid h7
      replace HF := Lib.hid (HF.out.below ikAt hb7); replace HG := Lib.hid (HG.out.below ikAt hb7); replace HH := Lib.hid (HH.out.below ikAt hb7); replace Hb := Lib.hid (Hb.out.trans (hb7.mono Hb.out.size))
      replace HD := Lib.hid (HD.out.below ikN hb7)
      clear h7 hb7 hW HM HN
      go_wp2_with fail
      refine (polymul_any ikN ikAt _ _ _ d _ _ _ h _ HD.out HH.out Dd.fit hfit (by omega) (by omega)).mono ?_
      rintro e w8 ⟨A8, l8, c8, rfl, h8, hb8⟩
      rw [Dd.t, ← HW.out] at h8
      have hl8 : l8 ≤ 10 := by have h1 := h8.length; omega
      have HX := Lib.hid h8
      replace HF := Lib.hid (HF.out.below ikAt hb8); replace HG := Lib.hid (HG.out.below ikAt hb8); replace HH := Lib.hid (HH.out.below ikAt hb8); replace Hb := Lib.hid (Hb.out.trans (hb8.mono Hb.out.size))
      replace HD := Lib.hid (HD.out.below ikN hb8)
      replace HO := Lib.hid (HO.out.below ikN hb8)
      clear h8 hb8
      have sW : SmP W := fitW.smp
      have sO : SmP (ppos W) := fitO.smp
      have sd : SmP d := Dd.fit.smp
      have hld : SmI (plead W) := sW.getD _
      go_wp2_with fail
      refine (lead_any _ _ _ W _ (HX.out.at_ ikN) sW (by omega)).mono ?_
      rintro e w9 ⟨n9, A9, l9, c9, rfl, hz9, hb9⟩
      have Hz9 := Lib.hid hz9
      replace HF := Lib.hid (HF.out.below ikAt hb9); replace HG := Lib.hid (HG.out.below ikAt hb9); replace HH := Lib.hid (HH.out.below ikAt hb9); replace Hb := Lib.hid (Hb.out.trans (hb9.mono Hb.out.size))
      replace HD := Lib.hid (HD.out.below ikN hb9)
      replace HO := Lib.hid (HO.out.below ikN hb9)
      replace HX := Lib.hid (HX.out.below ikN hb9)
      clear hz9 hb9
      go_wp2_with fail
      refine (isign_any _ _ _ _ _ _ Hz9.out.at_ hld).mono ?_
      rintro e w10 ⟨rfl, hw10⟩
      have hb10 : Below w9.heap.size w9 w10 := by rw [hw10]; exact (Below.refl _ _).alloc (Nat.le_refl _) _
      replace HF := Lib.hid (HF.out.below ikAt hb10); replace HG := Lib.hid (HG.out.below ikAt hb10); replace HH := Lib.hid (HH.out.below ikAt hb10); replace Hb := Lib.hid (Hb.out.trans (hb10.mono Hb.out.size))
      replace HD := Lib.hid (HD.out.below ikN hb10)
      replace HO := Lib.hid (HO.out.below ikN hb10)
      replace HX := Lib.hid (HX.out.below ikN hb10)
      clear hw10 hb10 Hz9 hld
      have Epp := Lib.hid (show ptrim (ppos W) = ppos W from ppos_trim W)
      by_cases hn : plead W < 0
      · have Ew := Lib.hid (show ptrim (ppos W) = ptrim (pmn (ptrim W)) by unfold ppos; rw [if_pos hn])
        have fitN : FitP (pmn (ptrim W)) := by have h1 : ppos W = pmn (ptrim W) := by unfold ppos; rw [if_pos hn]
                                               rw [← h1]; exact fitO
        have lenN : (pmn (ptrim W)).length ≤ 10 := by rw [pmn_length, ptrim_length]; have := plen_le W; omega
        rw [sg_neg hn]
        clear hn
        go_wp2_with fail
        refine (polyneg_any ikN _ _ _ W _ HX.out sW (by omega)).mono ?_
        rintro e w11 ⟨A11, l11, c11, rfl, h11, hb11⟩
        have HY := Lib.hid h11
        have hl11 : l11 ≤ 10 := by have h1 := h11.length; omega
        replace HF := Lib.hid (HF.out.below ikAt hb11); replace HG := Lib.hid (HG.out.below ikAt hb11); replace HH := Lib.hid (HH.out.below ikAt hb11); replace Hb := Lib.hid (Hb.out.trans (hb11.mono Hb.out.size))
        replace HD := Lib.hid (HD.out.below ikN hb11)
        replace HO := Lib.hid (HO.out.below ikN hb11)
        clear h11 hb11 HX
        obtain ⟨V, hV⟩ : ∃ V, V = pmn (ptrim W) := ⟨_, rfl⟩
        rw [← hV] at HY Ew fitN
        have sV : SmP V := fitN.smp
        clear hV lenN
        go_wp2_with fail
        refine (same_any ikN ikN _ _ _ (ppos W) _ _ _ V _ HO.out HY.out sO sV (by omega) (by omega)).mono ?_
        rintro e w12 ⟨rfl, hb12⟩
        rw [show decide (ptrim (ppos W) = ptrim V) = true from decide_eq_true Ew.out]
        replace HF := Lib.hid (HF.out.below ikAt hb12); replace HG := Lib.hid (HG.out.below ikAt hb12); replace HH := Lib.hid (HH.out.below ikAt hb12); replace Hb := Lib.hid (Hb.out.trans (hb12.mono Hb.out.size))
        replace HD := Lib.hid (HD.out.below ikN hb12)
        clear hb12 HO HY
        go_wp2_with fail
        refine (gcd_any ikAt ikAt _ _ _ g _ _ _ f _ HG.out HF.out sg' sf (by omega) (by omega) g3).mono ?_
        rintro e w13 ⟨A13, l13, c13, rfl, h13, hb13⟩
        rw [← E2.out, ← Hd.out] at h13
        have hl13 : l13 ≤ 5 := by have h1 := h13.length; have h2 := Dd.l; rw [← Dd.t, ptrim_length] at h1; omega
        have HD2 := Lib.hid h13
        replace HF := Lib.hid (HF.out.below ikAt hb13); replace HG := Lib.hid (HG.out.below ikAt hb13); replace HH := Lib.hid (HH.out.below ikAt hb13); replace Hb := Lib.hid (Hb.out.trans (hb13.mono Hb.out.size))
        replace HD := Lib.hid (HD.out.below ikN hb13)
        clear h13 hb13
        go_wp2_with fail
        refine (same_any ikN ikN _ _ _ d _ _ _ d _ HD.out HD2.out sd sd (by omega) (by omega)).mono ?_
        rintro e w14 ⟨rfl, hb14⟩
        rw [show decide (ptrim d = ptrim d) = true from decide_eq_true rfl]
        replace HF := Lib.hid (HF.out.below ikAt hb14); replace HG := Lib.hid (HG.out.below ikAt hb14); replace HH := Lib.hid (HH.out.below ikAt hb14); replace Hb := Lib.hid (Hb.out.trans (hb14.mono Hb.out.size))
        replace HD := Lib.hid (HD.out.below ikN hb14)
        clear hb14 HD2
        go_wp2_with fail
        refine (gcd_any ikN ikAt _ _ _ d _ _ _ h _ HD.out HH.out sd sh (by omega) (by omega) g5).mono ?_
        rintro e w15 ⟨A15, l15, c15, rfl, h15, hb15⟩
        rw [Hd.out, E3.out] at h15
        obtain ⟨T, hT⟩ : ∃ T, T = gres f (gres g h) := ⟨_, rfl⟩
        rw [← hT] at h15
        have HT := Lib.hid hT
        have sT : SmP T := by rw [hT, ← E3.out, ← Hd.out]; exact (gres_any_ds Dd Fh).1
        have lT : T.length ≤ 5 := by rw [hT, ← E3.out, ← Hd.out]; exact (gres_any_ds Dd Fh).2
        have hl15 : l15 ≤ 5 := by have h1 := h15.length; omega
        have H15 := Lib.hid h15
        replace HF := Lib.hid (HF.out.below ikAt hb15); replace HG := Lib.hid (HG.out.below ikAt hb15); replace HH := Lib.hid (HH.out.below ikAt hb15); replace Hb := Lib.hid (Hb.out.trans (hb15.mono Hb.out.size))
        clear h15 hb15 HD hT
        go_wp2_with fail
        refine (gcd_any ikAt ikAt _ _ _ g _ _ _ h _ HG.out HH.out sg' sh (by omega) (by omega) g4).mono ?_
        rintro e w16 ⟨A16, l16, c16, rfl, h16, hb16⟩
        have hl16 : l16 ≤ 5 := by have h1 := h16.length; have h2 := De.l; rw [← De.t, ptrim_length] at h1; omega
        have H16 := Lib.hid h16
        replace HF := Lib.hid (HF.out.below ikAt hb16); replace HG := Lib.hid (HG.out.below ikAt hb16); replace HH := Lib.hid (HH.out.below ikAt hb16); replace Hb := Lib.hid (Hb.out.trans (hb16.mono Hb.out.size))
        replace H15 := Lib.hid (H15.out.below ikN hb16)
        clear h16 hb16
        go_wp2_with fail
        refine (gcd_any ikAt ikN _ _ _ f _ _ _ (gres g h) _ HF.out H16.out sf De.fit.smp (by omega) (by omega) g6).mono ?_
        rintro e w17 ⟨A17, l17, c17, rfl, h17, hb17⟩
        rw [← HT.out] at h17
        have hl17 : l17 ≤ 5 := by have h1 := h17.length; omega
        have H17 := Lib.hid h17
        replace HF := Lib.hid (HF.out.below ikAt hb17); replace HG := Lib.hid (HG.out.below ikAt hb17); replace HH := Lib.hid (HH.out.below ikAt hb17); replace Hb := Lib.hid (Hb.out.trans (hb17.mono Hb.out.size))
        replace H15 := Lib.hid (H15.out.below ikN hb17)
        clear h17 hb17 H16
        go_wp2_with fail
        refine (same_any ikN ikN _ _ _ T _ _ _ T _ H15.out H17.out sT sT (by omega) (by omega)).mono ?_
        rintro e w18 ⟨rfl, hb18⟩
        rw [show decide (ptrim T = ptrim T) = true from decide_eq_true rfl]
        replace HF := Lib.hid (HF.out.below ikAt hb18); replace HG := Lib.hid (HG.out.below ikAt hb18); replace HH := Lib.hid (HH.out.below ikAt hb18); replace Hb := Lib.hid (Hb.out.trans (hb18.mono Hb.out.size))
        clear hb18 H15 H17
        go_wp2
        go_ret
        exact ⟨rfl, Hb.out⟩
      · have Ew := Lib.hid (show ptrim (ppos W) = ptrim W by unfold ppos; rw [if_neg hn, ptrim_ptrim])
        have hsn : ¬ sg (plead W) < 0 := by
          rcases sg_cases (plead W) with ⟨h1, e⟩ | ⟨h1, e⟩ | ⟨h1, e⟩ <;> omega
        obtain ⟨s, hs2⟩ : ∃ s, s = sg (plead W) := ⟨_, rfl⟩
        rw [← hs2] at hsn ⊢
        clear hn hs2
        have HY := HX
        clear HX
        obtain ⟨V, hV⟩ : ∃ V, V = W := ⟨_, rfl⟩
        rw [← hV] at HY
        have Ev : Hid (ptrim (ppos W) = ptrim V) := Lib.hid (by rw [hV]; exact Ew.out)
        have sV : SmP V := by rw [hV]; exact sW
        clear hV Ew
        have Ew := Ev
        go_wp2_with fail
        refine (same_any ikN ikN _ _ _ (ppos W) _ _ _ V _ HO.out HY.out sO sV (by omega) (by omega)).mono ?_
        rintro e w12 ⟨rfl, hb12⟩
        rw [show decide (ptrim (ppos W) = ptrim V) = true from decide_eq_true Ew.out]
        replace HF := Lib.hid (HF.out.below ikAt hb12); replace HG := Lib.hid (HG.out.below ikAt hb12); replace HH := Lib.hid (HH.out.below ikAt hb12); replace Hb := Lib.hid (Hb.out.trans (hb12.mono Hb.out.size))
        replace HD := Lib.hid (HD.out.below ikN hb12)
        clear hb12 HO HY
        go_wp2_with fail
        refine (gcd_any ikAt ikAt _ _ _ g _ _ _ f _ HG.out HF.out sg' sf (by omega) (by omega) g3).mono ?_
        rintro e w13 ⟨A13, l13, c13, rfl, h13, hb13⟩
        rw [← E2.out, ← Hd.out] at h13
        have hl13 : l13 ≤ 5 := by have h1 := h13.length; have h2 := Dd.l; rw [← Dd.t, ptrim_length] at h1; omega
        have HD2 := Lib.hid h13
        replace HF := Lib.hid (HF.out.below ikAt hb13); replace HG := Lib.hid (HG.out.below ikAt hb13); replace HH := Lib.hid (HH.out.below ikAt hb13); replace Hb := Lib.hid (Hb.out.trans (hb13.mono Hb.out.size))
        replace HD := Lib.hid (HD.out.below ikN hb13)
        clear h13 hb13
        go_wp2_with fail
        refine (same_any ikN ikN _ _ _ d _ _ _ d _ HD.out HD2.out sd sd (by omega) (by omega)).mono ?_
        rintro e w14 ⟨rfl, hb14⟩
        rw [show decide (ptrim d = ptrim d) = true from decide_eq_true rfl]
        replace HF := Lib.hid (HF.out.below ikAt hb14); replace HG := Lib.hid (HG.out.below ikAt hb14); replace HH := Lib.hid (HH.out.below ikAt hb14); replace Hb := Lib.hid (Hb.out.trans (hb14.mono Hb.out.size))
        replace HD := Lib.hid (HD.out.below ikN hb14)
        clear hb14 HD2
        go_wp2_with fail
        refine (gcd_any ikN ikAt _ _ _ d _ _ _ h _ HD.out HH.out sd sh (by omega) (by omega) g5).mono ?_
        rintro e w15 ⟨A15, l15, c15, rfl, h15, hb15⟩
        rw [Hd.out, E3.out] at h15
        obtain ⟨T, hT⟩ : ∃ T, T = gres f (gres g h) := ⟨_, rfl⟩
        rw [← hT] at h15
        have HT := Lib.hid hT
        have sT : SmP T := by rw [hT, ← E3.out, ← Hd.out]; exact (gres_any_ds Dd Fh).1
        have lT : T.length ≤ 5 := by rw [hT, ← E3.out, ← Hd.out]; exact (gres_any_ds Dd Fh).2
        have hl15 : l15 ≤ 5 := by have h1 := h15.length; omega
        have H15 := Lib.hid h15
        replace HF := Lib.hid (HF.out.below ikAt hb15); replace HG := Lib.hid (HG.out.below ikAt hb15); replace HH := Lib.hid (HH.out.below ikAt hb15); replace Hb := Lib.hid (Hb.out.trans (hb15.mono Hb.out.size))
        clear h15 hb15 HD hT
        go_wp2_with fail
        refine (gcd_any ikAt ikAt _ _ _ g _ _ _ h _ HG.out HH.out sg' sh (by omega) (by omega) g4).mono ?_
        rintro e w16 ⟨A16, l16, c16, rfl, h16, hb16⟩
        have hl16 : l16 ≤ 5 := by have h1 := h16.length; have h2 := De.l; rw [← De.t, ptrim_length] at h1; omega
        have H16 := Lib.hid h16
        replace HF := Lib.hid (HF.out.below ikAt hb16); replace HG := Lib.hid (HG.out.below ikAt hb16); replace HH := Lib.hid (HH.out.below ikAt hb16); replace Hb := Lib.hid (Hb.out.trans (hb16.mono Hb.out.size))
        replace H15 := Lib.hid (H15.out.below ikN hb16)
        clear h16 hb16
        go_wp2_with fail
        refine (gcd_any ikAt ikN _ _ _ f _ _ _ (gres g h) _ HF.out H16.out sf De.fit.smp (by omega) (by omega) g6).mono ?_
        rintro e w17 ⟨A17, l17, c17, rfl, h17, hb17⟩
        rw [← HT.out] at h17
        have hl17 : l17 ≤ 5 := by have h1 := h17.length; omega
        have H17 := Lib.hid h17
        replace HF := Lib.hid (HF.out.below ikAt hb17); replace HG := Lib.hid (HG.out.below ikAt hb17); replace HH := Lib.hid (HH.out.below ikAt hb17); replace Hb := Lib.hid (Hb.out.trans (hb17.mono Hb.out.size))
        replace H15 := Lib.hid (H15.out.below ikN hb17)
        clear h17 hb17 H16
        go_wp2_with fail
        refine (same_any ikN ikN _ _ _ T _ _ _ T _ H15.out H17.out sT sT (by omega) (by omega)).mono ?_
        rintro e w18 ⟨rfl, hb18⟩
        rw [show decide (ptrim T = ptrim T) = true from decide_eq_true rfl]
        replace HF := Lib.hid (HF.out.below ikAt hb18); replace HG := Lib.hid (HG.out.below ikAt hb18); replace HH := Lib.hid (HH.out.below ikAt hb18); replace Hb := Lib.hid (Hb.out.trans (hb18.mono Hb.out.size))
        clear hb18 H15 H17
        go_wp2
        go_ret
        exact ⟨rfl, Hb.out⟩
end Go.Proofs.Ytgblfpkfapmlnaa
