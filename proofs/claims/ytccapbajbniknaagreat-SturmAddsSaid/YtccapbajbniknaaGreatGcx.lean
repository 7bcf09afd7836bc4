/- unidiv.positive; unidiv.Gcd of any two polynomials of small degree. -/
import Derived.Test.YtccapbajbniknaaGreatAwl
import Derived.Test.YtccapbajbniknaaGreatGtn
import Derived.Test.YtccapbajbniknaaGreatSta
namespace Go.Proofs.YtccapbajbniknaaGreat
open Go.RowKit

set_option maxRecDepth 100000 in
set_option maxHeartbeats 1000000 in
theorem positive_any {I : IntPred} (hI : IK I) (A : Option Addr) (la ca : Nat) (g : List Int) (w : World) (h : PolyP I w A la ca g) (hs : SmP g) (hm : la ≤ 1000000) :
    Calls Tryz.prog 97 #[.slice A la ca] w fun e w' => ∃ A' l' c', e = .returned (.slice A' l' c') ∧ PolyN w' A' l' c' (ppos g) ∧ Below w.heap.size w w' := by
  have hld : SmI (plead g) := hs.getD _
  have Hg := Lib.hid h
  clear h
  go_enter Tryz.func97, Tryz.ntmps97
  go_wp2_with fail
  refine (lead_any _ _ _ _ _ (Hg.out.at_ hI) hs (by omega)).mono ?_
  rintro e w1 ⟨n1, A1, l1, c1, rfl, hz1, hb1⟩
  have Hz := Lib.hid hz1
  replace Hg := Lib.hid (Hg.out.below hI hb1)
  have Hb := Lib.hid hb1
  clear hz1 hb1
  go_wp2_with fail
  refine (isign_any _ _ _ _ _ _ Hz.out.at_ hld).mono ?_
  rintro e w2 ⟨rfl, rfl⟩
  by_cases hn : plead g < 0
  · have He := Lib.hid (show ppos g = pmn (ptrim g) by unfold ppos; rw [if_pos hn])
    rw [sg_neg hn]
    clear hn hld
    go_wp2_with fail
    refine (polyneg_any hI _ _ _ g _ (Hg.out.below hI (by (repeat (first | exact Below.refl _ _ | refine Below.drew ?_ | refine Below.alloc ?_ (by first | (simp; done) | (simp; omega) | omega) _ | refine Below.setCell ?_ (by first | (simp; done) | (simp; omega) | omega) _)))) hs (by omega)).mono ?_
    rintro e w3 ⟨A3, l3, c3, rfl, h3, hb3⟩
    have H3 := Lib.hid h3
    have Hb3 := Lib.hid (Hb.out.trans ((Below.trans (by (repeat (first | exact Below.refl _ _ | refine Below.drew ?_ | refine Below.alloc ?_ (by first | (simp; done) | (simp; omega) | omega) _ | refine Below.setCell ?_ (by first | (simp; done) | (simp; omega) | omega) _))) (hb3.mono (by simp <;> omega))).mono Hb.out.size))
    clear h3 hb3
    go_wp2
    go_ret
    exact ⟨_, _, _, rfl, by rw [He.out]; exact H3.out, Hb3.out⟩
  · have He := Lib.hid (show ppos g = ptrim g by unfold ppos; rw [if_neg hn])
    have hsn : ¬ sg (plead g) < 0 := by
      rcases sg_cases (plead g) with ⟨h1, e⟩ | ⟨h1, e⟩ | ⟨h1, e⟩ <;> omega
    obtain ⟨s, hs2⟩ : ∃ s, s = sg (plead g) := ⟨_, rfl⟩
    rw [← hs2] at hsn ⊢
    clear hn hld hs2
    go_wp2_with fail
    refine (pnormal_any hI _ _ _ g _ (Hg.out.below hI (by (repeat (first | exact Below.refl _ _ | refine Below.drew ?_ | refine Below.alloc ?_ (by first | (simp; done) | (simp; omega) | omega) _ | refine Below.setCell ?_ (by first | (simp; done) | (simp; omega) | omega) _)))) hs (by omega)).mono ?_
    rintro e w3 ⟨r3, rfl, h3, _, hb3⟩
    have hp3 := h3.poly (cap := plen g) (by rw [ptrim_length]; exact Nat.le_refl _)
    rw [ptrim_length] at hp3
    have H3 := Lib.hid hp3
    have Hb3 := Lib.hid (Hb.out.trans ((Below.trans (by (repeat (first | exact Below.refl _ _ | refine Below.drew ?_ | refine Below.alloc ?_ (by first | (simp; done) | (simp; omega) | omega) _ | refine Below.setCell ?_ (by first | (simp; done) | (simp; omega) | omega) _))) (hb3.mono (by simp <;> omega))).mono Hb.out.size))
    clear h3 hb3 hp3
    go_wp2
    go_ret
    exact ⟨_, _, _, rfl, by rw [He.out]; exact H3.out, Hb3.out⟩

set_option maxRecDepth 100000 in
set_option maxHeartbeats 1000000 in
theorem gcd_zero_l {I J : IntPred} (hI : IK I) (hJ : IK J) (A : Option Addr) (la ca : Nat) (f : List Int) (B : Option Addr) (lb cb : Nat) (g : List Int) (w : World) (hf : PolyP I w A la ca f) (hg : PolyP J w B lb cb g) (hsf : SmP f) (hsg : SmP g) (hla : la ≤ 1000000) (hlb : lb ≤ 1000000) (f0 : plen f = 0) :
    CallsIn Fence.wide 9 Tryz.prog 55 #[.slice A la ca, .slice B lb cb] w fun e w' => ∃ A1 l1 c1, e = .returned (.slice A1 l1 c1) ∧ PolyN w' A1 l1 c1 (ppos g) ∧ Below w.heap.size w w' := by
  refine callsIn_of_wp_marks Tryz.func55 rfl trivial ?_ rfl
  simp only [Tryz.ntmps55, List.size_toArray, List.length_cons, List.length_nil, Nat.reduceAdd, Nat.reduceSub, Array.replicate_succ, Array.replicate_zero, List.push_toArray, List.append_toArray, List.nil_append, List.cons_append]
  gi_wp2_with fail
  refine ⟨trivial, (callsIn_wide.2 (degree_any _ _ _ _ _ (hf.at_ hI) hsf (by omega))).mono ?_⟩
  rintro e w1 ⟨rfl, hb1⟩
  rw [f0, show ((0 : Nat) : Int) - 1 = -1 by omega]
  have Hg := Lib.hid (hg.below hJ hb1)
  have Hb := Lib.hid hb1
  clear hf hg hb1
  gi_wp2_with fail
  refine ⟨trivial, (callsIn_wide.2 (positive_any hJ _ _ _ g _ Hg.out hsg (by omega))).mono ?_⟩
  rintro e w2 ⟨A2, l2, c2, rfl, h2, hb2⟩
  have H2 := Lib.hid h2
  replace Hb := Lib.hid (Hb.out.trans (hb2.mono Hb.out.size))
  clear h2 hb2 Hg
  gi_wp2
  exact ⟨_, results_tmp rfl _ _ _, A2, l2, c2, rfl, H2.out, Hb.out⟩

set_option maxRecDepth 100000 in
set_option maxHeartbeats 1000000 in
theorem gcd_zero_r {I J : IntPred} (hI : IK I) (hJ : IK J) (A : Option Addr) (la ca : Nat) (f : List Int) (B : Option Addr) (lb cb : Nat) (g : List Int) (w : World) (hf : PolyP I w A la ca f) (hg : PolyP J w B lb cb g) (hsf : SmP f) (hsg : SmP g) (hla : la ≤ 1000000) (hlb : lb ≤ 1000000) (f0 : plen f ≠ 0) (g0 : plen g = 0) :
    CallsIn Fence.wide 9 Tryz.prog 55 #[.slice A la ca, .slice B lb cb] w fun e w' => ∃ A1 l1 c1, e = .returned (.slice A1 l1 c1) ∧ PolyN w' A1 l1 c1 (ppos f) ∧ Below w.heap.size w w' := by
  obtain ⟨df, hdf⟩ : ∃ d, plen f = d + 1 := ⟨plen f - 1, by omega⟩
  have Hdf := Lib.hid hdf
  refine callsIn_of_wp_marks Tryz.func55 rfl trivial ?_ rfl
  simp only [Tryz.ntmps55, List.size_toArray, List.length_cons, List.length_nil, Nat.reduceAdd, Nat.reduceSub, Array.replicate_succ, Array.replicate_zero, List.push_toArray, List.append_toArray, List.nil_append, List.cons_append]
  clear hdf f0
  gi_wp2_with fail
  refine ⟨trivial, (callsIn_wide.2 (degree_any _ _ _ _ _ (hf.at_ hI) hsf (by omega))).mono ?_⟩
  rintro e w1 ⟨rfl, hb1⟩
  rw [Hdf.out, show ((df + 1 : Nat) : Int) - 1 = (df : Int) by omega]
  have df0 : decide ((df : Int) < 0) = false := decide_eq_false (by omega)
  have Hf := Lib.hid (hf.below hI hb1)
  have Hg := Lib.hid (hg.below hJ hb1)
  have Hb := Lib.hid hb1
  clear hf hg hb1
  gi_wp2_with fail
  refine ⟨trivial, (callsIn_wide.2 (degree_any _ _ _ _ _ (Hg.out.at_ hJ) hsg (by omega))).mono ?_⟩
  rintro e w2 ⟨rfl, hb2⟩
  rw [g0, show ((0 : Nat) : Int) - 1 = -1 by omega]
  replace Hf := Lib.hid (Hf.out.below hI hb2)
  replace Hb := Lib.hid (Hb.out.trans (hb2.mono Hb.out.size))
  clear hb2 Hg df0
  gi_wp2_with fail
  refine ⟨trivial, (callsIn_wide.2 (positive_any hI _ _ _ f _ Hf.out hsf (by omega))).mono ?_⟩
  rintro e w3 ⟨A2, l2, c2, rfl, h2, hb3⟩
  have H2 := Lib.hid h2
  replace Hb := Lib.hid (Hb.out.trans (hb3.mono Hb.out.size))
  clear h2 hb3 Hf
  gi_wp2
  exact ⟨_, results_tmp rfl _ _ _, A2, l2, c2, rfl, H2.out, Hb.out⟩

theorem gcd_any {I J : IntPred} (hI : IK I) (hJ : IK J) (A : Option Addr) (la ca : Nat) (f : List Int) (B : Option Addr) (lb cb : Nat) (g : List Int) (w : World) (hf : PolyP I w A la ca f) (hg : PolyP J w B lb cb g) (hsf : SmP f) (hsg : SmP g) (hla : la ≤ 1000000) (hlb : lb ≤ 1000000) (hga : GAny f g) :
    Calls Tryz.prog 55 #[.slice A la ca, .slice B lb cb] w fun e w' => ∃ A1 l1 c1, e = .returned (.slice A1 l1 c1) ∧ PolyN w' A1 l1 c1 (gres f g) ∧ Below w.heap.size w w' := by
  unfold gres
  split
  · rename_i f0
    exact callsIn_wide.1 (gcd_zero_l hI hJ A la ca f B lb cb g w hf hg hsf hsg hla hlb f0)
  · rename_i f0
    split
    · rename_i g0
      exact callsIn_wide.1 (gcd_zero_r hI hJ A la ca f B lb cb g w hf hg hsf hsg hla hlb f0 g0)
    · rename_i g0
      obtain ⟨e, S, hc⟩ := (hga.resolve_left f0).resolve_left g0
      obtain ⟨_, h2, h3, _, h5, h6, h7⟩ := hc.all
      exact gcd_poly hI hJ A la ca f B lb cb g w hf hg hsf hsg hla hlb (by omega) (by omega) 20 h5 h6 h2 h3 h7
end Go.Proofs.YtccapbajbniknaaGreat
