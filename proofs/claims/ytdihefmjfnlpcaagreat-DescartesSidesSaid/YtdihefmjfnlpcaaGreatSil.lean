/- The walk of the law DescartesSides. -/
import Derived.Test.YtdihefmjfnlpcaaGreatAwd
import Derived.Test.YtdihefmjfnlpcaaGreatStr
import Derived.Test.YtdihefmjfnlpcaaGreatSid
import Derived.Test.YtdihefmjfnlpcaaGreatStf
namespace Go.Proofs.YtdihefmjfnlpcaaGreat
open Go.RowKit

theorem scs_zero (P : List Int) (k : Nat) : ∀ t, scs P 0 1 k t = (if t = 0 then 0 else P.getD (k - t) 0, 1)
  | 0 => rfl
  | t + 1 => by
    have h := scs_zero P k t
    show ((scs P 0 1 k t).1 * 0 + P.getD (k - 1 - t) 0 * (if t = 0 then (scs P 0 1 k t).2 else (scs P 0 1 k t).2 * 1), if t = 0 then (scs P 0 1 k t).2 else (scs P 0 1 k t).2 * 1) = _
    rw [h]
    have e : k - 1 - t = k - (t + 1) := by omega
    rw [e, if_neg (by omega : ¬ t + 1 = 0)]
    by_cases ht : t = 0
    · simp [ht]
    · simp [ht]
theorem sval_zero (P : List Int) (h : 1 ≤ plen P) : sval P 0 1 = P.getD 0 0 := by
  unfold sval
  rw [scs_zero, if_neg (by omega), Nat.sub_self, ptrim_getD]
theorem at_zero {P : List Int} (h : FitP P) : AtFit P 0 1 := by
  refine ⟨u64_small (by decide), bb_small (by omega), by omega, fun t _ => ?_, fit_100 (by decide), fit_100 (by decide)⟩
  show Fit (scs (ptrim P) 0 1 (plen P) t).1 ∧ Fit (scs (ptrim P) 0 1 (plen P) t).2
  rw [scs_zero]
  refine ⟨?_, fit_100 (z := 1) (by decide)⟩
  show Fit (if t = 0 then 0 else (ptrim P).getD (plen P - t) 0)
  by_cases ht : t = 0
  · rw [if_pos ht]; exact fit_100 (by decide)
  · rw [if_neg ht]; exact h.trim _
theorem pow_neg_one (k : Nat) : ((-1 : Int) ^ k).natAbs = 1 := by rw [Int.natAbs_pow]; simp
theorem pow_flip (k : Nat) : (-1 : Int) ^ k = if k % 2 = 0 then 1 else -1 := by
  induction k with
  | zero => rfl
  | succ k ih =>
    rw [Int.pow_succ, ih]
    rcases Nat.mod_two_eq_zero_or_one k with h | h
    · rw [if_pos h, if_neg (by omega)]; rfl
    · rw [if_neg (by omega), if_pos (by omega)]; rfl
/-- the flipped polynomial -/
theorem str_flip {P : List Int} (h : plen P = P.length) : ptrim (pstr (-1) P) = pflip P := by
  have hl : (pstr (-1) P).length = P.length := rowf_length _ _ _
  have hg : ∀ k, (pstr (-1) P).getD k 0 = (pflip P).getD k 0 := fun k => by
    rw [pstr_get, pflip_get, pow_flip]
    split <;> omega
  have e : pstr (-1) P = pflip P := by
    refine eq_of_getD' (by rw [hl, pflip_length]) (fun k _ => hg k)
  rw [e]
  have h2 : plen (pflip P) = (pflip P).length := by
    rw [pflip_length]
    rcases Nat.eq_zero_or_pos P.length with h0 | h0
    · have := plen_le (pflip P); rw [pflip_length] at this; omega
    · have h3 : (pflip P).getD (P.length - 1) 0 ≠ 0 := by
        have h4 : P.getD (P.length - 1) 0 ≠ 0 := plen_lead P _ (by omega)
        rw [pflip_get]
        split <;> omega
      have h5 := plen_eq (pflip P) (P.length - 1) (by have := plen_le (pflip P); rw [pflip_length] at this; omega) h3
      omega
  unfold ptrim
  rw [h2, List.take_length]
theorem flip_smp {P : List Int} (h : SmP P) : SmP (pstr (-1) P) := fun c hc => by
  obtain ⟨k, hk⟩ := List.getElem?_of_mem hc
  have e1 : (pstr (-1) P).getD k 0 = c := by rw [List.getD_eq_getElem?_getD, hk]; rfl
  rw [← e1, pstr_get]
  show Sm (P.getD k 0 * (-1) ^ k).natAbs
  rw [Int.natAbs_mul, pow_neg_one, Nat.mul_one]
  exact h.getD k

set_option maxHeartbeats 1000000 in
theorem pos_any (A : Option Addr) (la ca : Nat) (p : List Int) (w : World) (h : PolyN w A la ca p) (hs : SmP p) (hm : la ≤ 1000000) :
    Calls Tryz.prog 10 #[.slice A la ca] w fun e w' => e = .returned (.int .i64 ((vst p la).1 : Nat)) ∧ Below w.heap.size w w' := by
  obtain ⟨X, hX⟩ : ∃ X, X = (vst p la).1 := ⟨_, rfl⟩
  rw [← hX]
  have HX := Lib.hid hX
  go_enter Tryz.func10, Tryz.ntmps10
  go_wp2_with fail
  refine (rvar_any _ _ _ _ _ (h.at_ ikN) hs (by omega)).mono ?_
  rintro e w1 ⟨rfl, hb1⟩
  rw [show (vst p la).1 = X from HX.out.symm]
  have Hb := Lib.hid hb1
  clear h hb1 hX
  go_wp2
  go_ret
  exact ⟨rfl, Hb.out⟩

/-- the sign changes of f(-x) -/
def nneg (p : List Int) : Nat := (vst (ptrim (pstr (-1) p)) (ptrim (pstr (-1) p)).length).1
/-- Variations of Stretch at -1 -/
theorem flipvar_any (A : Option Addr) (la ca : Nat) (p : List Int) (w : World) (h : PolyN w A la ca p) (tp : ptrim p = p) (hs : SmP p) (hm : la ≤ 1000000) (n : Bool) (B : Option Addr) (lb cb : Nat) (hz : IntN w n B lb cb (-1)) :
    Calls Tryz.prog 16 #[.slice A la ca, .agg #[.bool n, .slice B lb cb]] w fun e w' => ∃ A' l' c', e = .returned (.slice A' l' c') ∧ PolyN w' A' l' c' (ptrim (pstr (-1) p)) ∧ Below w.heap.size w w' := by
  have h1 := stretch_any ikN _ _ _ _ _ _ _ _ _ _ h hz hs (fun k _ => fit_100 (by rw [pow_neg_one]; omega)) (fit_100 (z := -1) (by decide)).sm (by rw [tp]; exact flip_smp hs) hm
  rw [tp] at h1
  exact h1

set_option maxHeartbeats 1000000 in
theorem neg_any (A : Option Addr) (la ca : Nat) (p : List Int) (w : World) (h : PolyN w A la ca p) (tp : ptrim p = p) (hs : SmP p) (hm : la ≤ 1000000) :
    Calls Tryz.prog 11 #[.slice A la ca] w fun e w' => e = .returned (.int .i64 (nneg p : Nat)) ∧ Below w.heap.size w w' := by
  obtain ⟨X, hX⟩ : ∃ X, X = nneg p := ⟨_, rfl⟩
  rw [← hX]
  have HX := Lib.hid hX
  have sR : SmP (ptrim (pstr (-1) p)) := (flip_smp hs).ptrim
  have hlR : (ptrim (pstr (-1) p)).length ≤ la := by
    rw [ptrim_length]
    refine Nat.le_trans (plen_le _) ?_
    rw [show (pstr (-1) p).length = p.length from rowf_length _ _ _, h.length]
    exact Nat.le_refl _
  clear hX
  go_enter Tryz.func11, Tryz.ntmps11
  go_wp2_with fail
  refine (iof_any (-1) _ (by unfold I64; omega)).mono ?_
  rintro e w1 ⟨n1, B1, l1, c1, rfl, h1, hb1⟩
  have H := Lib.hid (h.below ikN hb1)
  have Hb := Lib.hid hb1
  have H1 := Lib.hid h1
  clear h h1 hb1
  go_wp2_with fail
  refine (flipvar_any _ _ _ _ _ H.out tp hs hm _ _ _ _ H1.out).mono ?_
  rintro e w2 ⟨A2, l2, c2, rfl, h2, hb2⟩
  have hl2 := h2.length
  replace Hb := Lib.hid (Hb.out.trans (hb2.mono Hb.out.size))
  have H2 := Lib.hid h2
  clear h2 hb2 H H1
  go_wp2_with fail
  refine (rvar_any _ _ _ _ _ (H2.out.at_ ikN) sR (by omega)).mono ?_
  rintro e w3 ⟨rfl, hb3⟩
  rw [← hl2, show (vst (ptrim (pstr (-1) p)) (ptrim (pstr (-1) p)).length).1 = X from HX.out.symm]
  replace Hb := Lib.hid (Hb.out.trans (hb3.mono Hb.out.size))
  clear hb3 H2 hl2
  go_wp2
  go_ret
  exact ⟨rfl, Hb.out⟩

theorem small_fitp {p : List Int} (h : ∀ c ∈ p, -32768 ≤ c ∧ c ≤ 32767) : FitP p := fun k => by
  have hb : (p.getD k 0).natAbs ≤ 32768 := by
    rcases Nat.lt_or_ge k p.length with h1 | h1
    · have e : p.getD k 0 = p[k] := by rw [List.getD_eq_getElem?_getD, List.getElem?_eq_getElem h1]; rfl
      have := h _ (List.getElem_mem h1)
      omega
    · rw [getD_out _ h1]; decide
  unfold Fit
  have e : BB ^ 1 ≤ BB ^ 40 := Nat.pow_le_pow_right BB_pos (by omega)
  rw [Nat.pow_one] at e
  have : 32769 ≤ BB := by rw [BB_eq]; omega
  omega

set_option maxRecDepth 100000 in
set_option maxHeartbeats 1000000 in
theorem law_sides (A : Option Addr) (len cap : Nat) (cs : List Int) (w : World) (h : I16At w A len cap cs) (hlm : len ≤ 9223372036854775807) :
    Calls Tryz.prog 3 #[.slice A len cap] w fun e w' => e = .returned (.bool true) ∧ Below w.heap.size w w' := by
  go_enter Tryz.func3, Tryz.ntmps3
  go_wp2_with fail
  refine (awake17_any _).mono ?_
  rintro e w1 ⟨rfl, hb1⟩
  have h1 := h.below hb1
  have Hb := Lib.hid hb1
  clear hb1
  go_wp2_with fail
  refine (short_any _ _ _ 10 _ _ h1 (by omega) hlm).mono ?_
  rintro e w2 ⟨A2, l2, c2, rfl, h2, hb2⟩
  replace Hb := Lib.hid (Hb.out.trans (hb2.mono Hb.out.size))
  have hcs : ∀ c ∈ cs, -32768 ≤ c ∧ c ≤ 32767 := h.range
  obtain ⟨P, hP⟩ : ∃ P, P = ptrim (cs.take 10) := ⟨_, rfl⟩
  rw [← hP] at h2
  have fP : FitP P := by rw [hP]; exact (small_fitp (fun c hc => hcs c (List.mem_of_mem_take hc))).trim
  have tP : ptrim P = P := by rw [hP, ptrim_ptrim]
  have tl : plen P = P.length := by rw [hP, plen_ptrim, ptrim_length]
  have hl10 : P.length ≤ 10 := by rw [hP, ptrim_length]; exact Nat.le_trans (plen_le _) (by rw [List.length_take]; omega)
  have sP := fP.smp
  have hl2 := h2.length
  have H := Lib.hid h2
  have hl210 : l2 ≤ 10 := by omega
  clear hP hcs h h1 h2 hb2
  go_wp2_with fail
  refine (pos_any _ _ _ _ _ H.out sP (by omega)).mono ?_
  rintro e w3 ⟨rfl, hb3⟩
  obtain ⟨V1, hV1⟩ : ∃ V, V = (vst P l2).1 := ⟨_, rfl⟩
  rw [← hV1]
  replace H := Lib.hid (H.out.below ikN hb3)
  replace Hb := Lib.hid (Hb.out.trans (hb3.mono Hb.out.size))
  have HV1 := Lib.hid hV1
  clear hb3 hV1
  go_wp2_with fail
  refine (neg_any _ _ _ _ _ H.out tP sP (by omega)).mono ?_
  rintro e w4 ⟨rfl, hb4⟩
  obtain ⟨V2, hV2⟩ : ∃ V, V = nneg P := ⟨_, rfl⟩
  rw [← hV2]
  replace H := Lib.hid (H.out.below ikN hb4)
  replace Hb := Lib.hid (Hb.out.trans (hb4.mono Hb.out.size))
  have HV2 := Lib.hid hV2
  have hle : P.getD 0 0 ≠ 0 → 1 ≤ l2 → V1 + V2 ≤ l2 - 1 := fun h0 h1 => by
    have hs := sides_le h0 l2 h1
    have e2 : V2 = (vst (pflip P) l2).1 := by
      rw [hV2]
      unfold nneg
      rw [str_flip tl, pflip_length, hl2]
    rw [HV1.out, e2]
    exact hs
  have hv1 : V1 ≤ l2 := by rw [HV1.out]; exact (vst_le _ _).1
  have hv2 : V2 ≤ 10 := by
    rw [hV2]
    unfold nneg
    refine Nat.le_trans (vst_le _ _).1 ?_
    rw [str_flip tl, pflip_length]; omega
  have Hle := Lib.hid hle
  clear hb4 hV2 hle
  have sR : SmP (ptrim (pstr (-1) P)) := (flip_smp sP).ptrim
  have hlR : (ptrim (pstr (-1) P)).length ≤ 10 := by rw [str_flip tl, pflip_length]; exact hl10
  by_cases hl0 : l2 = 0
  · have hlt : ¬ ((0 : Int) < (l2 : Int)) := by omega
    clear Hle hl0
    (go_wp2_with fail; refine (rvar_any _ _ _ _ _ (H.out.at_ ikN) sP (by omega)).mono ?_; rintro e w6 ⟨rfl, hb6⟩; rw [show (vst P l2).1 = V1 from HV1.out.symm]; replace H := Lib.hid (H.out.below ikN hb6); replace Hb := Lib.hid (Hb.out.trans (hb6.mono Hb.out.size)); clear hb6; go_wp2_with fail; refine (iof_any (-1) _ (by unfold I64; omega)).mono ?_; rintro e w7 ⟨n7, B7, l7, c7, rfl, h7, hb7⟩; replace H := Lib.hid (H.out.below ikN hb7); replace Hb := Lib.hid (Hb.out.trans (hb7.mono Hb.out.size)); have H7 := Lib.hid h7; clear h7 hb7; go_wp2_with fail; refine (flipvar_any _ _ _ _ _ H.out tP sP (by omega) _ _ _ _ H7.out).mono ?_; rintro e w8 ⟨A8, l8, c8, rfl, h8, hb8⟩; have hl8 := h8.length; replace Hb := Lib.hid (Hb.out.trans (hb8.mono Hb.out.size)); have H8 := Lib.hid h8; clear h8 hb8 H7; go_wp2_with fail; refine (rvar_any _ _ _ _ _ (H8.out.at_ ikN) sR (by omega)).mono ?_; rintro e w9 ⟨rfl, hb9⟩; rw [← hl8, show (vst (ptrim (pstr (-1) P)) (ptrim (pstr (-1) P)).length).1 = V2 from HV2.out.symm]; replace Hb := Lib.hid (Hb.out.trans (hb9.mono Hb.out.size)); clear hb9 hl8 H8 H; go_wp2; go_ret; exact ⟨by simp, Hb.out⟩)
  · have hlt : (0 : Int) < (l2 : Int) := by omega
    go_wp2_with fail
    refine (rof_any 0 _ (by unfold I64; omega)).mono ?_
    rintro e w5 ⟨⟨n5, A5, l5, c5, B5, m5, d5, rfl, h5, k5⟩, hb5⟩
    replace H := Lib.hid (H.out.below ikN hb5)
    replace Hb := Lib.hid (Hb.out.trans (hb5.mono Hb.out.size))
    have H5 := Lib.hid h5
    have K5 := Lib.hid k5
    have az := at_zero fP
    have AZ := Lib.hid az
    clear h5 k5 hb5 az
    go_wp2_with fail
    refine (signat_any ikN _ _ _ _ _ _ _ _ _ _ _ _ _ _ H.out fP (by omega) H5.out K5.out AZ.out.u AZ.out.v AZ.out.p AZ.out.ok AZ.out.fz AZ.out.fq).mono ?_
    rintro e w5' ⟨rfl, hb5⟩
    replace H := Lib.hid (H.out.below ikN hb5)
    replace Hb := Lib.hid (Hb.out.trans (hb5.mono Hb.out.size))
    have esv : sval P ((0 : Int).tdiv (Nat.gcd (0 : Int).natAbs 1)) ((1 / Nat.gcd (0 : Int).natAbs 1 : Nat) : Int) = P.getD 0 0 := sval_zero P (by omega)
    rw [esv]
    clear hb5 H5 K5 AZ esv
    by_cases h0 : P.getD 0 0 = 0
    · have hs0 : (sg (P.getD 0 0) != 0) = false := by rw [h0]; rfl
      obtain ⟨S, hS⟩ : ∃ S, S = sg (P.getD 0 0) := ⟨_, rfl⟩
      rw [← hS] at hs0 ⊢
      clear hS h0 Hle
      (go_wp2_with fail; refine (rvar_any _ _ _ _ _ (H.out.at_ ikN) sP (by omega)).mono ?_; rintro e w6 ⟨rfl, hb6⟩; rw [show (vst P l2).1 = V1 from HV1.out.symm]; replace H := Lib.hid (H.out.below ikN hb6); replace Hb := Lib.hid (Hb.out.trans (hb6.mono Hb.out.size)); clear hb6; go_wp2_with fail; refine (iof_any (-1) _ (by unfold I64; omega)).mono ?_; rintro e w7 ⟨n7, B7, l7, c7, rfl, h7, hb7⟩; replace H := Lib.hid (H.out.below ikN hb7); replace Hb := Lib.hid (Hb.out.trans (hb7.mono Hb.out.size)); have H7 := Lib.hid h7; clear h7 hb7; go_wp2_with fail; refine (flipvar_any _ _ _ _ _ H.out tP sP (by omega) _ _ _ _ H7.out).mono ?_; rintro e w8 ⟨A8, l8, c8, rfl, h8, hb8⟩; have hl8 := h8.length; replace Hb := Lib.hid (Hb.out.trans (hb8.mono Hb.out.size)); have H8 := Lib.hid h8; clear h8 hb8 H7; go_wp2_with fail; refine (rvar_any _ _ _ _ _ (H8.out.at_ ikN) sR (by omega)).mono ?_; rintro e w9 ⟨rfl, hb9⟩; rw [← hl8, show (vst (ptrim (pstr (-1) P)) (ptrim (pstr (-1) P)).length).1 = V2 from HV2.out.symm]; replace Hb := Lib.hid (Hb.out.trans (hb9.mono Hb.out.size)); clear hb9 hl8 H8 H; go_wp2; go_ret; exact ⟨by simp, Hb.out⟩)
    · have hs0 : (sg (P.getD 0 0) != 0) = true := by
        have : sg (P.getD 0 0) ≠ 0 := fun e => h0 (by rcases sg_cases (P.getD 0 0) with ⟨h, e2⟩ | ⟨h, e2⟩ | ⟨h, e2⟩ <;> omega)
        simpa using this
      have hle := Hle.out h0 (by omega)
      obtain ⟨S, hS⟩ : ∃ S, S = sg (P.getD 0 0) := ⟨_, rfl⟩
      rw [← hS] at hs0 ⊢
      clear hS h0 Hle
      have hw : IntKind.i64.wrap ((V1 : Int) + (V2 : Int)) = (V1 : Int) + (V2 : Int) := IntWalk.i64_in _ (by omega)
      go_wp2_with fail
      refine (degree_any _ _ _ _ _ (H.out.at_ ikN) sP (by omega)).mono ?_
      rintro e w5' ⟨rfl, hb5⟩
      replace H := Lib.hid (H.out.below ikN hb5)
      replace Hb := Lib.hid (Hb.out.trans (hb5.mono Hb.out.size))
      have hng : ¬ ((plen P : Int) - 1 < (V1 : Int) + (V2 : Int)) := by omega
      clear hb5
      (go_wp2_with fail; refine (rvar_any _ _ _ _ _ (H.out.at_ ikN) sP (by omega)).mono ?_; rintro e w6 ⟨rfl, hb6⟩; rw [show (vst P l2).1 = V1 from HV1.out.symm]; replace H := Lib.hid (H.out.below ikN hb6); replace Hb := Lib.hid (Hb.out.trans (hb6.mono Hb.out.size)); clear hb6; go_wp2_with fail; refine (iof_any (-1) _ (by unfold I64; omega)).mono ?_; rintro e w7 ⟨n7, B7, l7, c7, rfl, h7, hb7⟩; replace H := Lib.hid (H.out.below ikN hb7); replace Hb := Lib.hid (Hb.out.trans (hb7.mono Hb.out.size)); have H7 := Lib.hid h7; clear h7 hb7; go_wp2_with fail; refine (flipvar_any _ _ _ _ _ H.out tP sP (by omega) _ _ _ _ H7.out).mono ?_; rintro e w8 ⟨A8, l8, c8, rfl, h8, hb8⟩; have hl8 := h8.length; replace Hb := Lib.hid (Hb.out.trans (hb8.mono Hb.out.size)); have H8 := Lib.hid h8; clear h8 hb8 H7; go_wp2_with fail; refine (rvar_any _ _ _ _ _ (H8.out.at_ ikN) sR (by omega)).mono ?_; rintro e w9 ⟨rfl, hb9⟩; rw [← hl8, show (vst (ptrim (pstr (-1) P)) (ptrim (pstr (-1) P)).length).1 = V2 from HV2.out.symm]; replace Hb := Lib.hid (Hb.out.trans (hb9.mono Hb.out.size)); clear hb9 hl8 H8 H; go_wp2; go_ret; exact ⟨by simp, Hb.out⟩)
end Go.Proofs.YtdihefmjfnlpcaaGreat
