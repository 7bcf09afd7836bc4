/- The law SturmIndex. -/
import Derived.Test.YtccapbajbniknaaTkr
import Derived.Test.YtccapbajbniknaaThL
namespace Go.Proofs.Ytccapbajbniknaa
open Go.RowKit

theorem nci_nil {f g : List Int} (h : plen f = 0) : nci f g = 0 := pline_nil h
theorem cp_short {w : World} {A : Option Addr} {l c : Nat} {p : List Int} (h : I16At w A l c p) {n : Nat} (hn : n ≤ 9) : CP (ptrim (p.take n)) := (short_p9 h hn).cp
theorem cp_prod {f h : List Int} (hf : ∀ j, (f.getD j 0).natAbs ≤ 32768) (hh : ∀ j, (h.getD j 0).natAbs ≤ 32768) (lf : plen f ≤ 5) (lh : plen h ≤ 5) : CP (polymul f h) := by
  refine ⟨Nat.le_trans (mul_plen (n := 9) (by omega)) (by omega), fun j => ?_⟩
  refine Nat.le_trans (mul_coef2 (i := 1) (k := 1) (fun j => Nat.le_trans (hf j) (by rw [Nat.pow_one, BB_eq]; decide)) (fun j => Nat.le_trans (hh j) (by rw [Nat.pow_one, BB_eq]; decide)) (by omega) j) (bbk_le (by decide))

set_option maxRecDepth 100000 in
set_option maxHeartbeats 8000000 in
theorem law_index (A : Option Addr) (la ca : Nat) (p : List Int) (B : Option Addr) (lb cb : Nat) (q : List Int) (C : Option Addr) (lc cc : Nat) (r : List Int) (w : World) (h1 : I16At w A la ca p) (h2 : I16At w B lb cb q) (h3 : I16At w C lc cc r) (hla : la ≤ 9223372036854775807) (hlb : lb ≤ 9223372036854775807) (hlc : lc ≤ 9223372036854775807) :
    Calls Try.prog 4 #[.slice A la ca, .slice B lb cb, .slice C lc cc] w fun e w' => e = .returned (.bool true) ∧ Below w.heap.size w w' := by
  obtain ⟨F, hF⟩ : ∃ F, F = ptrim (p.take 5) := ⟨_, rfl⟩
  obtain ⟨G, hG⟩ : ∃ G, G = ptrim (q.take 5) := ⟨_, rfl⟩
  obtain ⟨H, hH⟩ : ∃ H, H = ptrim (r.take 4) := ⟨_, rfl⟩
  have F9 : P9 F := by rw [hF]; exact short_p9 h1 (by omega)
  have cG : CP G := by rw [hG]; exact cp_short h2 (by omega)
  have cH : CP H := by rw [hH]; exact cp_short h3 (by omega)
  obtain ⟨f1, f2, f3, f4⟩ := short_bd h1 5
  obtain ⟨g1, g2, g3, g4⟩ := short_bd h2 5
  obtain ⟨k1, k2, k3, k4⟩ := short_bd h3 4
  rw [← hF] at f1 f2 f3 f4
  rw [← hG] at g1 g2 g3 g4
  rw [← hH] at k1 k2 k3 k4
  have cF := F9.cp
  have G6' : G6 G := ⟨by omega, fun j => Nat.le_trans (g4 j) (by rw [BB_eq]; decide)⟩
  have EF := Lib.hid hF.symm
  have EG := Lib.hid hG.symm
  have EH := Lib.hid hH.symm
  have Hi2 := Lib.hid h2
  have Hi3 := Lib.hid h3
  clear hF hG hH h2 h3
  go_enter Try.func4, Try.ntmps4
  go_wp2_with fail
  refine (awake15_any _).mono ?_
  rintro e w1 ⟨rfl, hb1⟩
  have Hi1 := Lib.hid (h1.below hb1)
  replace Hi2 := Lib.hid (Hi2.out.below hb1)
  replace Hi3 := Lib.hid (Hi3.out.below hb1)
  have Hb := Lib.hid hb1
  clear hb1 h1
  go_wp2_with fail
  refine (short_any _ _ _ 5 p _ Hi1.out (by omega) hla).mono ?_
  rintro e w2 ⟨A2, l2, c2, rfl, hf, hb2⟩
  rw [EF.out] at hf
  have hl2 : l2 ≤ 5 := by have := hf.length; omega
  have HF := Lib.hid hf
  replace Hi2 := Lib.hid (Hi2.out.below hb2)
  replace Hi3 := Lib.hid (Hi3.out.below hb2)
  replace Hb := Lib.hid (Hb.out.trans (hb2.mono Hb.out.size))
  clear hb2 hf Hi1
  go_wp2_with fail
  refine (short_any _ _ _ 5 q _ Hi2.out (by omega) hlb).mono ?_
  rintro e w3 ⟨A3, l3, c3, rfl, hf, hb3⟩
  rw [EG.out] at hf
  have hl3 : l3 ≤ 5 := by have := hf.length; omega
  have HG := Lib.hid hf
  replace HF := Lib.hid (HF.out.below ikN hb3)
  replace Hi3 := Lib.hid (Hi3.out.below hb3)
  replace Hb := Lib.hid (Hb.out.trans (hb3.mono Hb.out.size))
  clear hb3 hf Hi2
  go_wp2_with fail
  refine (short_any _ _ _ 4 r _ Hi3.out (by omega) hlc).mono ?_
  rintro e w4 ⟨A4, l4, c4, rfl, hf, hb4⟩
  rw [EH.out] at hf
  have hl4 : l4 ≤ 5 := by have := hf.length; omega
  have HH := Lib.hid hf
  replace HF := Lib.hid (HF.out.below ikN hb4)
  replace HG := Lib.hid (HG.out.below ikN hb4)
  replace Hb := Lib.hid (Hb.out.trans (hb4.mono Hb.out.size))
  clear hb4 hf Hi3
  go_wp2_with fail
  refine (degree_any _ _ _ _ _ (HF.out.at_ ikN) cF.fit.smp (by omega)).mono ?_
  rintro e w5 ⟨rfl, hb5⟩
  replace HF := Lib.hid (HF.out.below ikN hb5); replace HG := Lib.hid (HG.out.below ikN hb5); replace HH := Lib.hid (HH.out.below ikN hb5); replace Hb := Lib.hid (Hb.out.trans (hb5.mono Hb.out.size))
  clear hb5
  by_cases F0 : plen F = 0
  · have d0 : ((plen F : Nat) : Int) - 1 = -1 := by omega
    rw [d0]
    have hn := Lib.hid (nci_nil (g := G) F0)
    clear F0 d0
    go_wp2_with fail
    refine (cidx_any _ _ _ F _ _ _ G _ HF.out HG.out cF cG (by omega) (by omega)).mono ?_
    rintro e w6 ⟨rfl, hb6⟩
    rw [hn.out]
    replace HF := Lib.hid (HF.out.below ikN hb6); replace HG := Lib.hid (HG.out.below ikN hb6); replace HH := Lib.hid (HH.out.below ikN hb6); replace Hb := Lib.hid (Hb.out.trans (hb6.mono Hb.out.size))
    clear hb6
    go_wp2
    go_ret
    exact ⟨rfl, Hb.out⟩
  have HF0 := Lib.hid F0
  obtain ⟨dF, hdF⟩ : ∃ d : Nat, ((plen F : Nat) : Int) - 1 = (d : Int) := ⟨plen F - 1, by omega⟩
  rw [hdF]
  have nF : ¬ ((dF : Int) < 0) := by omega
  clear F0 hdF
  go_wp2_with fail
  refine (cidx_any _ _ _ F _ _ _ G _ HF.out HG.out cF cG (by omega) (by omega)).mono ?_
  rintro e w6 ⟨rfl, hb6⟩
  replace HF := Lib.hid (HF.out.below ikN hb6); replace HG := Lib.hid (HG.out.below ikN hb6); replace HH := Lib.hid (HH.out.below ikN hb6); replace Hb := Lib.hid (Hb.out.trans (hb6.mono Hb.out.size))
  clear hb6
  obtain ⟨PS, hPS⟩ : ∃ PS, PS = pchain 12 F G := ⟨_, rfl⟩
  obtain ⟨q1, q2, q3, q4⟩ := chain_all cF cG
  rw [← hPS] at q2 q4
  have HPS := Lib.hid hPS
  obtain ⟨V, hV⟩ : ∃ V, V = nci F G := ⟨_, rfl⟩
  rw [← hV]
  have HV := Lib.hid hV
  clear hPS hV
  go_wp2_with fail
  refine (chain_any _ _ _ F _ _ _ G _ HF.out HG.out cF.fit.smp cG.fit.smp (by omega) (by omega) 12 q1 (by omega)).mono ?_
  rintro e w7 ⟨As, ls, cs', rfl, hs, hb7⟩
  rw [← HPS.out] at hs
  have Hls := Lib.hid (show ls = PS.length from hs.length.symm)
  have hls2 : ls ≤ 13 := by have := hs.length; omega
  have HS := Lib.hid hs
  replace HF := Lib.hid (HF.out.below ikN hb7); replace HG := Lib.hid (HG.out.below ikN hb7); replace HH := Lib.hid (HH.out.below ikN hb7); replace Hb := Lib.hid (Hb.out.trans (hb7.mono Hb.out.size))
  clear hb7 hs
  have hlp : ls ≤ 1000000 := by omega
  have KE : Hid (∀ q ∈ PS, SmP q ∧ q.length ≤ 1000000000) := Lib.hid (fun q hq => (q2 q hq).smp)
  obtain ⟨N1, hN1⟩ : ∃ N, N = (vst (PS.map (sge true)) ls).1 := ⟨_, rfl⟩
  obtain ⟨N2, hN2⟩ : ∃ N, N = (vst (PS.map (sge false)) ls).1 := ⟨_, rfl⟩
  have n1 := (vst_le (PS.map (sge true)) ls).1
  have n2 := (vst_le (PS.map (sge false)) ls).1
  rw [← hN1] at n1
  rw [← hN2] at n2
  have hall : V = (N1 : Int) - (N2 : Int) := by
    rw [HV.out, hN1, hN2, Hls.out, vend_eq, vend_eq, HPS.out]; rfl
  have HN1 := Lib.hid hN1.symm
  have HN2 := Lib.hid hN2.symm
  have hw : IntKind.i64.wrap ((N1 : Int) - (N2 : Int)) = V := by rw [hall]; exact IntWalk.i64_in _ (by omega)
  have hw3 : IntKind.i64.wrap (-V) = -V := by rw [hall]; exact IntWalk.i64_in _ (by omega)
  clear hN1 hN2 hall q2
  go_wp2_with fail
  refine (varend_any true _ _ _ PS _ HS.out KE.out hlp).mono ?_
  rintro e w8 ⟨rfl, hb8⟩
  rw [HN1.out]
  replace HS := Lib.hid (HS.out.below hb8)
  replace HF := Lib.hid (HF.out.below ikN hb8); replace HG := Lib.hid (HG.out.below ikN hb8); replace HH := Lib.hid (HH.out.below ikN hb8); replace Hb := Lib.hid (Hb.out.trans (hb8.mono Hb.out.size))
  clear hb8
  go_wp2_with fail
  refine (varend_any false _ _ _ PS _ HS.out KE.out hlp).mono ?_
  rintro e w9 ⟨rfl, hb9⟩
  rw [HN2.out]
  replace HS := Lib.hid (HS.out.below hb9)
  replace HF := Lib.hid (HF.out.below ikN hb9); replace HG := Lib.hid (HG.out.below ikN hb9); replace HH := Lib.hid (HH.out.below ikN hb9); replace Hb := Lib.hid (Hb.out.trans (hb9.mono Hb.out.size))
  clear hb9 HS
  have HZ : Hid (plen H = 0 ∨ nci (polymul (ptrim F) (ptrim H)) (polymul (ptrim G) (ptrim H)) = V) := Lib.hid (by
    by_cases z : plen H = 0
    · exact .inl z
    · right
      rw [f3, g3, k3, HV.out]
      exact nci_mul cF cG (cp_prod f4 k4 f1 (by omega)) (cp_prod g4 k4 g1 (by omega)) HF0.out z)
  have cFH : CP (polymul (ptrim F) (ptrim H)) := by rw [f3, k3]; exact cp_prod f4 k4 f1 (by omega)
  have cGH : CP (polymul (ptrim G) (ptrim H)) := by rw [g3, k3]; exact cp_prod g4 k4 g1 (by omega)
  have lFH := polymul_le (ptrim F) (ptrim H)
  have lGH := polymul_le (ptrim G) (ptrim H)
  rw [ptrim_length, ptrim_length] at lFH lGH
  have HQ : Hid (nq F G = nci F (dgm F G)) := Lib.hid (nci_tarski F G).symm
  have cD : CP (dgm F G) := F9.dg (by omega) (by omega) G6'.b
  have cdF : CP (pder F) := F9.der
  have lD := polymul_le (ptrim (pder F)) (ptrim G)
  rw [ptrim_length, ptrim_length] at lD
  have ldF := plen_pder F
  have HN : Hid (nci F (pmn (ptrim G)) = -V) := Lib.hid (by rw [g3, HV.out]; exact nci_neg cF cG HF0.out)
  have cN : CP (pmn (ptrim G)) := ⟨by rw [plen_pmn, plen_ptrim]; omega, fun j => by rw [pmn_get, Int.natAbs_neg, ptrim_getD]; exact cG.b j⟩
  obtain ⟨X, hX⟩ : ∃ X, X = nq F G := ⟨_, rfl⟩
  rw [← hX] at HQ
  have HX := Lib.hid hX.symm
  clear hX
  go_upto_region 10 with fail
  go_cut [53] (fun s53 wx => s53 = .bool false ∧ Below w.heap.size w wx ∧ PolyN wx A2 l2 c2 F ∧ PolyN wx A3 l3 c3 G)
  case first =>
    go_wp2_with fail
    refine (degree_any _ _ _ _ _ (HH.out.at_ ikN) cH.fit.smp (by omega)).mono ?_
    rintro e w10 ⟨rfl, hb10⟩
    replace HF := Lib.hid (HF.out.below ikN hb10); replace HG := Lib.hid (HG.out.below ikN hb10); replace HH := Lib.hid (HH.out.below ikN hb10); replace Hb := Lib.hid (Hb.out.trans (hb10.mono Hb.out.size))
    clear hb10
    by_cases z : plen H = 0
    · have d0 : ((plen H : Nat) : Int) - 1 = -1 := by omega
      rw [d0]
      clear z d0
      go_wp2_with fail
      go_meet
      exact ⟨rfl, Hb.out, HF.out, HG.out⟩
    · have hz := HZ.out.resolve_left z
      have Hz := Lib.hid hz
      obtain ⟨dH, hdH⟩ : ∃ d : Nat, ((plen H : Nat) : Int) - 1 = (d : Int) := ⟨plen H - 1, by omega⟩
      rw [hdH]
      have nH : 0 ≤ (dH : Int) := by omega
      clear z hdH hz
      go_wp2_with fail
      refine (polymul_any ikN ikN _ _ _ F _ _ _ H _ HF.out HH.out cF.fit cH.fit (by omega) (by omega)).mono ?_
      rintro e w11 ⟨A5, l5, c5, rfl, h5, hb11⟩
      have hl5 : l5 ≤ 20 := by have := h5.length; omega
      have H5 := Lib.hid h5
      replace HF := Lib.hid (HF.out.below ikN hb11); replace HG := Lib.hid (HG.out.below ikN hb11); replace HH := Lib.hid (HH.out.below ikN hb11); replace Hb := Lib.hid (Hb.out.trans (hb11.mono Hb.out.size))
      clear hb11 h5
      go_wp2_with fail
      refine (polymul_any ikN ikN _ _ _ G _ _ _ H _ HG.out HH.out cG.fit cH.fit (by omega) (by omega)).mono ?_
      rintro e w12 ⟨A6, l6, c6, rfl, h6, hb12⟩
      have hl6 : l6 ≤ 20 := by have := h6.length; omega
      have H6 := Lib.hid h6
      replace H5 := Lib.hid (H5.out.below ikN hb12)
      replace HF := Lib.hid (HF.out.below ikN hb12); replace HG := Lib.hid (HG.out.below ikN hb12); replace HH := Lib.hid (HH.out.below ikN hb12); replace Hb := Lib.hid (Hb.out.trans (hb12.mono Hb.out.size))
      clear hb12 h6
      go_wp2_with fail
      refine (cidx_any _ _ _ _ _ _ _ _ _ H5.out H6.out cFH cGH (by omega) (by omega)).mono ?_
      rintro e w13 ⟨rfl, hb13⟩
      rw [Hz.out]
      replace HF := Lib.hid (HF.out.below ikN hb13); replace HG := Lib.hid (HG.out.below ikN hb13); replace HH := Lib.hid (HH.out.below ikN hb13); replace Hb := Lib.hid (Hb.out.trans (hb13.mono Hb.out.size))
      clear hb13
      go_wp2_with fail
      go_meet
      exact ⟨rfl, Hb.out, HF.out, HG.out⟩
  case rest =>
    obtain ⟨rfl, hbc, hfc, hgc⟩ := hcut
    replace HF := Lib.hid hfc
    replace HG := Lib.hid hgc
    replace Hb := Lib.hid hbc
    clear hbc hfc hgc HH
    go_wp2_with fail
    refine (derivative_any ikN _ _ _ _ _ HF.out cF.fit.smp (by omega)).mono ?_
    rintro e w14 ⟨A7, l7, c7, rfl, h7, hb14⟩
    have hl7 : l7 ≤ 10 := by have := h7.length; rw [pder_length] at this; omega
    replace HF := Lib.hid (HF.out.below ikN hb14)
    replace HG := Lib.hid (HG.out.below ikN hb14)
    replace Hb := Lib.hid (Hb.out.trans (hb14.mono Hb.out.size))
    have H7 := Lib.hid h7
    clear hb14 h7
    go_wp2_with fail
    refine (polymul_any ikN ikN _ _ _ (pder F) _ _ _ G _ H7.out HG.out cdF.fit cG.fit (by omega) (by omega)).mono ?_
    rintro e w15 ⟨A8, l8, c8, rfl, h8, hb15⟩
    have hl8 : l8 ≤ 20 := by have := h8.length; omega
    replace HF := Lib.hid (HF.out.below ikN hb15)
    replace HG := Lib.hid (HG.out.below ikN hb15)
    replace Hb := Lib.hid (Hb.out.trans (hb15.mono Hb.out.size))
    have H8 := Lib.hid h8
    clear hb15 h8 H7
    go_wp2_with fail
    refine (cidx_any _ _ _ F _ _ _ (dgm F G) _ HF.out H8.out cF cD (by omega) (by omega)).mono ?_
    rintro e w16 ⟨rfl, hb16⟩
    rw [← HQ.out]
    replace HF := Lib.hid (HF.out.below ikN hb16)
    replace HG := Lib.hid (HG.out.below ikN hb16)
    replace Hb := Lib.hid (Hb.out.trans (hb16.mono Hb.out.size))
    clear hb16 H8
    go_wp2_with fail
    refine (qall_any ikN ikN _ _ _ F _ _ _ G _ HF.out HG.out F9 (by omega) G6' (by omega)).mono ?_
    rintro e w17 ⟨rfl, hb17⟩
    rw [HX.out]
    replace HF := Lib.hid (HF.out.below ikN hb17)
    replace HG := Lib.hid (HG.out.below ikN hb17)
    replace Hb := Lib.hid (Hb.out.trans (hb17.mono Hb.out.size))
    clear hb17
    have bX : (X == X) = true := by simp
    go_wp2_with fail
    refine (polyneg_any ikN _ _ _ _ _ HG.out cG.fit.smp (by omega)).mono ?_
    rintro e w18 ⟨A9, l9, c9, rfl, h9, hb18⟩
    have hl9 : l9 ≤ 20 := by have := h9.length; rw [pmn_length, ptrim_length] at this; omega
    replace HF := Lib.hid (HF.out.below ikN hb18)
    replace Hb := Lib.hid (Hb.out.trans (hb18.mono Hb.out.size))
    have H9 := Lib.hid h9
    clear hb18 h9 HG
    go_wp2_with fail
    refine (cidx_any _ _ _ F _ _ _ _ _ HF.out H9.out cF cN (by omega) (by omega)).mono ?_
    rintro e w19 ⟨rfl, hb19⟩
    rw [HN.out]
    replace Hb := Lib.hid (Hb.out.trans (hb19.mono Hb.out.size))
    clear hb19 H9 HF
    go_wp2
    go_ret
    exact ⟨rfl, Hb.out⟩
end Go.Proofs.Ytccapbajbniknaa
