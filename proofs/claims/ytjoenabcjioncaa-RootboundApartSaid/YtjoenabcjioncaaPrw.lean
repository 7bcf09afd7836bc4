/- The walks of squarefree.Part at any small polynomial, rootbound.power and rootbound.Separation. -/
import Derived.Test.YtjoenabcjioncaaApt
import Derived.Test.YtjoenabcjioncaaGcx
import Derived.Test.YtjoenabcjioncaaPart
import Derived.Test.YtjoenabcjioncaaLgb
namespace Go.Proofs.Ytjoenabcjioncaa
open Go.RowKit

set_option maxRecDepth 100000 in
set_option maxHeartbeats 1000000 in
theorem part_any {I : IntPred} (hI : IK I) (A : Option Addr) (la ca : Nat) (F : List Int) (w : World) (hf : PolyP I w A la ca F) (hF : Few8 F) (F0 : plen F ≠ 0) (hla : la ≤ 1000000) :
    Calls Try.prog 44 #[.slice A la ca] w fun e w' => ∃ A1 l1 c1, e = .returned (.slice A1 l1 c1) ∧ PolyN w' A1 l1 c1 (ppart F) ∧ Below w.heap.size w w' := by
  have PF := part_f hF F0
  have sf : SmP F := FitP.smp (fun j => Nat.lt_of_le_of_lt (hF.2 j) (by rw [BB_eq]; decide +kernel))
  have fP : FitP (pprim F) := fun j => Nat.lt_of_le_of_lt ((pp_few hF).2 j) (by rw [BB_eq]; decide +kernel)
  have fdr : FitP (pder (pprim F)) := fun j => Nat.lt_of_le_of_lt (pder_bd (pp_few hF).1 (pp_few hF).2 j) (by rw [BB_eq]; decide +kernel)
  have hl1 := (pp_few hF).1
  have tP := gp_trim F
  have Hdf : Hid (((plen F : Nat) : Int) - 1 = ((plen F - 1 : Nat) : Int)) := Lib.hid (by omega)
  obtain ⟨P, hP⟩ : ∃ P, P = pprim F := ⟨_, rfl⟩
  obtain ⟨D, hD⟩ : ∃ D, D = pdiv F := ⟨_, rfl⟩
  obtain ⟨Q, hQ⟩ : ∃ Q, Q = ppart F := ⟨_, rfl⟩
  have ga := PF.ga
  have fd := PF.fd
  have d0 := PF.d0
  have dl := PF.dl
  have ok := PF.ok
  rw [← hP] at ga ok fP fdr hl1 tP
  rw [← hD] at fd d0 dl ok
  have hDe : gres P (pder P) = D := by rw [hD, hP]; rfl
  have hQe : pexq P D = Q := by rw [hQ, hP, hD]; rfl
  have HP := Lib.hid hP
  have HD := Lib.hid hDe
  have HQ := Lib.hid hQe
  have HQ2 := Lib.hid hQ
  rw [← hQ]
  have hpl : P.length ≤ 8 := by rw [← tP, ptrim_length]; exact hl1
  have hdl : (pder P).length ≤ 8 := by rw [pder_length]; omega
  clear PF hP hD hQ hDe hQe
  go_enter Try.func44, Try.ntmps44
  go_wp2_with fail
  refine (degree_any _ _ _ _ _ (hf.at_ hI) sf (by omega)).mono ?_
  rintro e w1 ⟨rfl, hb1⟩
  rw [Hdf.out]
  have dneg : ¬ (((plen F - 1 : Nat) : Int) < 0) := by omega
  have hf1 := hf.below hI hb1
  have Hb1 := Lib.hid hb1
  clear hf hb1
  go_wp2_with fail
  refine (primitive_any hI _ _ _ _ _ hf1 sf (by omega)).mono ?_
  rintro e w3 ⟨A3, l3, c3, rfl, h3, hb3⟩
  rw [← HP.out] at h3
  have hl3 : l3 ≤ 8 := by have := h3.length; omega
  have H3 := Lib.hid h3
  have Hb3 := Lib.hid (Hb1.out.trans (hb3.mono Hb1.out.size))
  clear hf1 hb3 Hb1 dneg
  go_wp2_with fail
  refine (derivative_any ikN _ _ _ _ _ h3 fP.smp (by omega)).mono ?_
  rintro e w4 ⟨A4, l4, c4, rfl, h4, hb4⟩
  have hl4 : l4 ≤ 8 := by have := h4.length; omega
  have h34 := H3.out.below ikN hb4
  have Hb4 := Lib.hid (Hb3.out.trans (hb4.mono Hb3.out.size))
  have H34 := Lib.hid h34
  clear h3 hb4 H3 Hb3
  go_wp2_with fail
  refine (gcd_any ikN ikN _ _ _ P _ _ _ (pder P) _ h34 h4 fP.smp fdr.smp (by omega) (by omega) ga).mono ?_
  rintro e w5 ⟨A5, l5, c5, rfl, h5, hb5⟩
  rw [HD.out] at h5
  have hl5 : l5 ≤ 8 := by have := h5.length; omega
  have h35 := H34.out.below ikN hb5
  have Hb5 := Lib.hid (Hb4.out.trans (hb5.mono Hb4.out.size))
  clear h34 h4 hb5 H34 Hb4
  go_wp2_with fail
  refine (quotient_any ikN ikN _ _ _ P _ _ _ D 1000000000 _ h35 h5 fP.smp fd (by omega) (by omega) (by omega) (by omega) ok).mono ?_
  rintro e w6 ⟨A6, l6, c6, rfl, h6, hb6⟩
  rw [HQ.out] at h6
  have H6 := Lib.hid h6
  have Hb6 := Lib.hid (Hb5.out.trans (hb6.mono Hb5.out.size))
  clear h35 h5 h6 hb6 Hb5
  go_wp2
  go_ret
  exact ⟨_, _, _, rfl, H6.out, Hb6.out⟩

set_option maxRecDepth 100000 in
set_option maxHeartbeats 4000000 in
theorem rpower_any (na : Bool) (A : Option Addr) (la ca : Nat) (a : Int) (n : Nat) (w : World) (h : IntN w na A la ca a) (h0 : a ≠ 0) (hf : Fit (a ^ n)) (hn : n ≤ 1000000000) (hfa : Fit a) :
    Calls Try.prog 45 #[.agg #[.bool na, .slice A la ca], .int .i64 (n : Int)] w fun e w' => ∃ n1 A1 l1 c1, e = .returned (.agg #[.bool n1, .slice A1 l1 c1]) ∧ IntN w' n1 A1 l1 c1 (a ^ n) ∧ Below w.heap.size w w' := by
  have hba : Below w.heap.size w (w.alloc (ibox na A la ca)) := (Below.refl _ _).alloc (Nat.le_refl _) _
  have hbb : Below (w.alloc (ibox na A la ca)).heap.size (w.alloc (ibox na A la ca)) ((w.alloc (ibox na A la ca)).alloc (ibox false none 0 0)) := (Below.refl _ _).alloc (Nat.le_refl _) _
  have hab := hba.trans (hbb.mono hba.size)
  have hR := IBox.nil (w.alloc (ibox na A la ca))
  simp only [World.size_alloc] at hR
  have h1 := h.below hab
  have hp := poly_ibox h1
  have hbc : Below ((w.alloc (ibox na A la ca)).alloc (ibox false none 0 0)).heap.size ((w.alloc (ibox na A la ca)).alloc (ibox false none 0 0)) (((w.alloc (ibox na A la ca)).alloc (ibox false none 0 0)).alloc (ibox na A la ca)) := (Below.refl _ _).alloc (Nat.le_refl _) _
  have HR := Lib.hid (hR.move hbc)
  have Hb := Lib.hid (hab.trans (hbc.mono hab.size))
  simp only [World.size_alloc] at hp
  have Hp := Lib.hid hp
  clear h hba hbb hab hR h1 hp hbc
  go_enter Try.func45, Try.ntmps45
  go_wp2_with fail
  refine (cpow_any _ _ _ _ _ Hp.out h0 hf hn hfa).mono ?_
  rintro e w1 ⟨A1, c1, rfl, h2, hb1⟩
  have HR1 := Lib.hid (HR.out.move hb1)
  have Hb1 := Lib.hid (Hb.out.trans (hb1.mono Hb.out.size))
  have hpn : a ^ n ≠ 0 := Int.pow_ne_zero h0
  clear hb1 Hp HR Hb
  go_wp2_with fail
  refine (lead_any _ _ _ _ _ (h2.at_ ikN) (fitp_const hf).smp (by omega)).mono ?_
  rintro e w2 ⟨n2, A2, l2, c2, rfl, h3, hb2⟩
  rw [plead_const hpn] at h3
  have hR2 := HR1.out.move hb2
  have HP := Lib.hid (hR2.put h3)
  have Hb2 := Lib.hid (((Hb1.out.trans (hb2.mono Hb1.out.size)).setCell (p := ⟨w.heap.size + 1, 0, none⟩) (by first | (simp; done) | (simp; omega) | omega) (.bool n2)).setCell (p := ⟨w.heap.size + 1, 1, none⟩) (by first | (simp; done) | (simp; omega) | omega) (.slice A2 l2 c2))
  have d0 := hR2.c0
  have d1 := hR2.c1
  have d2 := hR2.f0
  have d3 := hR2.f1
  clear h2 h3 hb2 hR2 HR1 Hb1
  go_wp2
  refine bodyPost_ret (v := .agg #[.bool n2, .slice A2 l2 c2]) (by simp [results, Try.results45, go_sem, d0, d1]) rfl ⟨_, _, _, _, rfl, HP.out.hz, Hb2.out⟩

theorem pow_mul_le {b a c n : Nat} (hb : 0 < b) (h : a * c ≤ n) : (b ^ a) ^ c ≤ b ^ n := by rw [← Nat.pow_mul]; exact Nat.pow_le_pow_right hb h

set_option maxRecDepth 100000 in
set_option maxHeartbeats 4000000 in
theorem sep_any {I : IntPred} (hI : IK I) (A : Option Addr) (la ca : Nat) (F : List Int) (w : World) (hf : PolyP I w A la ca F) (hF : Few8 F) (F0 : plen F ≠ 0) (hla : la ≤ 1000000) :
    Calls Try.prog 17 #[.slice A la ca] w fun e w' => (∃ s : Nat, e = .returned (.int .i64 (s : Int)) ∧ SepV F s ∧ s ≤ 1000) ∧ Below w.heap.size w w' := by
  have PF := part_f hF F0
  have hF8 := hF.1
  obtain ⟨Q, hQ⟩ : ∃ Q, Q = ppart F := ⟨_, rfl⟩
  have qb := PF.b
  have qt := PF.t
  have ql := PF.l
  have q0 := PF.q0
  rw [← hQ] at qb qt ql q0
  have HQ := Lib.hid hQ
  have fQ : FitP Q := fun j => Nat.lt_of_le_of_lt (qb j) (Nat.lt_trans PB_lt (by rw [BB_eq]; decide +kernel))
  have sQ : SmP Q := fQ.smp
  obtain ⟨d, hd⟩ : ∃ d, plen Q = d + 1 := ⟨plen Q - 1, by omega⟩
  have hd7 : d ≤ 7 := by omega
  have hQl : Q.length = d + 1 := by rw [← qt, ptrim_length]; exact hd
  have hd2 : ((plen Q : Nat) : Int) - 1 = (d : Int) := by omega
  have hnb := nst_bd qb
  have hN1 : (nst Q (d + 1)).natAbs ≤ 8 * (2 ^ 100 * 2 ^ 100) := Nat.le_trans (hnb (d + 1)).1 (Nat.mul_le_mul (by omega) (Nat.mul_le_mul (Nat.le_of_lt PB_lt) (Nat.le_of_lt PB_lt)))
  have hN0 : nst Q (d + 1) ≠ 0 := fun e => by
    have h1 := nst_ge (p := Q) (d + 1) d (by omega)
    have h2 : Q.getD d 0 ≠ 0 := plen_lead Q d hd
    rw [e] at h1
    have h3 : 0 < (Q.getD d 0).natAbs * (Q.getD d 0).natAbs := Nat.mul_pos (Int.natAbs_pos.2 h2) (Int.natAbs_pos.2 h2)
    simp only [Int.natAbs_zero] at h1
    omega
  have hok : ∀ k, k < d + 1 → NormOK Q k := fun k hk => by
    have b1 : (nst Q k).natAbs ≤ 8 * (2 ^ 100 * 2 ^ 100) := Nat.le_trans (hnb k).1 (Nat.mul_le_mul (by omega) (Nat.mul_le_mul (Nat.le_of_lt PB_lt) (Nat.le_of_lt PB_lt)))
    have b2 : (Q.getD k 0 * Q.getD k 0).natAbs ≤ 2 ^ 100 * 2 ^ 100 := by rw [Int.natAbs_mul]; exact Nat.mul_le_mul (Nat.le_trans (qb k) (Nat.le_of_lt PB_lt)) (Nat.le_trans (qb k) (Nat.le_of_lt PB_lt))
    have sm : ∀ {x : Nat}, x ≤ 16 * (2 ^ 100 * 2 ^ 100) → Sm x := fun {x} hx => Nat.le_trans (dlen_le_of_lt (k := 20) (Nat.lt_of_le_of_lt hx (by rw [BB_eq]; decide +kernel))) (by omega)
    exact ⟨(fQ k).mulok _, sm (by omega), sm (by omega), sm (by omega)⟩
  obtain ⟨N, hN⟩ : ∃ N : Nat, nst Q (d + 1) = (N : Int) := ⟨(nst Q (d + 1)).natAbs, by have := (hnb (d + 1)).2; omega⟩
  rw [hN] at hN1 hN0
  rw [Int.natAbs_natCast] at hN1
  have hfit : ∀ {x : Int}, x.natAbs ≤ (8 * (2 ^ 100 * 2 ^ 100)) ^ 6 → Fit x := fun {x} hx => Nat.lt_of_le_of_lt hx (by rw [BB_eq]; decide +kernel)
  have fN : Fit (N : Int) := hfit (by rw [Int.natAbs_natCast]; exact Nat.le_trans hN1 (by decide +kernel))
  have fNp : Fit ((N : Int) ^ (d - 1)) := hfit (by
    rw [Int.natAbs_pow, Int.natAbs_natCast]
    exact Nat.le_trans (Nat.pow_le_pow_left hN1 _) (Nat.pow_le_pow_right (by decide) (by omega)))
  have fd : Fit (d : Int) := hfit (by rw [Int.natAbs_natCast]; exact Nat.le_trans hd7 (by decide +kernel))
  have hdp : d ^ (d + 2) ≤ 7 ^ 9 := Nat.le_trans (Nat.pow_le_pow_left hd7 _) (Nat.pow_le_pow_right (by decide) (by omega))
  have fdp : Fit ((d : Int) ^ (d + 2)) := hfit (by
    rw [Int.natAbs_pow, Int.natAbs_natCast]
    exact Nat.le_trans hdp (by decide +kernel))
  obtain ⟨X, hX⟩ : ∃ X : Nat, X = d ^ (d + 2) * N ^ (d - 1) := ⟨_, rfl⟩
  have hXb : X ≤ 7 ^ 9 * (8 * (2 ^ 100 * 2 ^ 100)) ^ 6 := by
    rw [hX]
    exact Nat.mul_le_mul hdp (Nat.le_trans (Nat.pow_le_pow_left hN1 _) (Nat.pow_le_pow_right (by decide) (by omega)))
  have smX : Sm (X + 1) := Nat.le_trans (dlen_le_of_lt (k := 60) (Nat.lt_of_le_of_lt (Nat.succ_le_succ hXb) (by rw [BB_eq]; decide +kernel))) (by omega)
  have siX : SmI (X : Int) := by unfold SmI; rw [Int.natAbs_natCast]; exact Sm.mono smX (by omega)
  have hXe : Hid (((d : Int) ^ (d + 2)) * ((N : Int) ^ (d - 1)) = (X : Int)) := Lib.hid (by rw [hX]; simp)
  have hsx : Hid (sepx Q = X) := Lib.hid (by unfold sepx; rw [hd, hQl, hN, hX, Nat.add_sub_cancel, Int.natAbs_natCast])
  have HN := Lib.hid hN
  have HQl := Lib.hid hQl
  have Hd := Lib.hid hd
  have Hd2 := Lib.hid hd2
  clear PF qb hnb hN hX hdp hQ hd hd2 q0 ql qt
  go_enter Try.func17, Try.ntmps17
  go_wp2_with fail
  refine (part_any hI _ _ _ F _ hf hF F0 hla).mono ?_
  rintro e w1 ⟨A1, l1, c1, rfl, h1, hb1⟩
  rw [← HQ.out] at h1
  have hl1 : l1 = d + 1 := by rw [← h1.length]; exact HQl.out
  subst hl1
  have H1 := Lib.hid h1
  have Hb := Lib.hid hb1
  clear hf h1 hb1
  go_wp2_with fail
  refine (degree_any _ _ _ _ _ (H1.out.at_ ikN) sQ (by omega)).mono ?_
  rintro e w2 ⟨rfl, hb2⟩
  rw [Hd2.out]
  replace H1 := Lib.hid (H1.out.below ikN hb2)
  replace Hb := Lib.hid (Hb.out.trans (hb2.mono Hb.out.size))
  clear hb2
  by_cases hsm : d < 2
  · have t1 : (d : Int) < 2 := by omega
    have HV := Lib.hid (show SepV F 0 from .inl ⟨by rw [← HQ.out, Hd.out]; omega, rfl⟩)
    clear hsm
    go_wp2
    go_ret
    exact ⟨⟨0, rfl, HV.out, by omega⟩, Hb.out⟩
  · have t1 : ¬ (d : Int) < 2 := by omega
    have w3 : IntKind.i64.wrap (d : Int) = (d : Int) := IntWalk.i64_in _ (by omega)
    obtain ⟨d2, hd2⟩ : ∃ d2, d2 = d + 2 := ⟨_, rfl⟩
    obtain ⟨d1, hd1⟩ : ∃ d1, d1 = d - 1 := ⟨_, rfl⟩
    rw [← hd2] at fdp hXe
    rw [← hd1] at fNp hXe
    have q4 : IntKind.i64.wrap ((d : Int) + 2) = (d2 : Int) := by rw [IntWalk.i64_in _ (by omega)]; omega
    have q4' : (d : Int) + 2 = (d2 : Int) := by omega
    have q4'' : IntKind.i64.wrap (d2 : Int) = (d2 : Int) := IntWalk.i64_in _ (by omega)
    have q5 : IntKind.i64.wrap ((d : Int) - 1) = (d1 : Int) := by rw [IntWalk.i64_in _ (by omega)]; omega
    have q5' : (d : Int) - 1 = (d1 : Int) := by omega
    have q5'' : IntKind.i64.wrap (d1 : Int) = (d1 : Int) := IntWalk.i64_in _ (by omega)
    have hd2b : d2 ≤ 9 := by omega
    have hd1b : d1 ≤ 7 := by omega
    clear hd2 hd1
    have d00 : (d : Int) ≠ 0 := by omega
    go_wp2_with fail
    refine (iof_any (d : Int) _ (by unfold I64; omega)).mono ?_
    rintro e w3 ⟨n3, A3, l3, c3, rfl, h3, hb3⟩
    replace H1 := Lib.hid (H1.out.below ikN hb3)
    replace Hb := Lib.hid (Hb.out.trans (hb3.mono Hb.out.size))
    have H3 := Lib.hid h3
    clear h3 hb3
    go_wp2_with fail
    refine (rpower_any _ _ _ _ (d : Int) d2 _ H3.out d00 fdp (by omega) fd).mono ?_
    rintro e w4 ⟨n4, A4, l4, c4, rfl, h4, hb4⟩
    have k4 : Below w4.heap.size w4 (w4.alloc (ibox n4 A4 l4 c4)) := (Below.refl _ _).alloc (Nat.le_refl _) _
    replace H1 := Lib.hid ((H1.out.below ikN hb4).below ikN k4)
    have B5 := Lib.hid (IBox.make h4)
    replace Hb := Lib.hid ((Hb.out.trans (hb4.mono Hb.out.size)).trans (k4.mono (Hb.out.trans (hb4.mono Hb.out.size)).size))
    obtain ⟨g5, hg5⟩ : ∃ g, g = w4.heap.size := ⟨_, rfl⟩
    obtain ⟨wa, hwa⟩ : ∃ wa, wa = w4.alloc (ibox n4 A4 l4 c4) := ⟨_, rfl⟩
    go_wp2_with fail
    rw [← hwa] at H1 B5 Hb ⊢
    rw [← hg5] at B5 ⊢
    clear h4 hb4 k4 H3 hwa hg5 q4 q4' q4''
    refine (rnorm_any ikN _ _ _ Q _ H1.out sQ (by omega) hok).mono ?_
    rintro e w5 ⟨n5, A5, l5, c5, rfl, h5, hb5⟩
    rw [HN.out] at h5
    have H5 := Lib.hid h5
    replace B5 := Lib.hid (B5.out.move hb5)
    replace Hb := Lib.hid (Hb.out.trans (hb5.mono Hb.out.size))
    clear h5 hb5 H1
    go_wp2_with fail
    refine (rpower_any _ _ _ _ (N : Int) d1 _ H5.out hN0 fNp (by omega) fN).mono ?_
    rintro e w6 ⟨n6, A6, l6, c6, rfl, h6, hb6⟩
    have k6 : Below w6.heap.size w6 (w6.alloc (ibox n6 A6 l6 c6)) := (Below.refl _ _).alloc (Nat.le_refl _) _
    replace B5 := Lib.hid ((B5.out.move hb6).move k6)
    have B6 := Lib.hid (IBox.make h6)
    replace Hb := Lib.hid ((Hb.out.trans (hb6.mono Hb.out.size)).trans (k6.mono (Hb.out.trans (hb6.mono Hb.out.size)).size))
    obtain ⟨g6, hg6⟩ : ∃ g, g = w6.heap.size := ⟨_, rfl⟩
    obtain ⟨wc, hwc⟩ : ∃ wc, wc = w6.alloc (ibox n6 A6 l6 c6) := ⟨_, rfl⟩
    rw [← hwc] at B5 B6 Hb
    rw [← hg6] at B6
    have x0 := B5.out.c0
    have x1 := B5.out.c1
    have y0 := B6.out.c0
    have y1 := B6.out.c1
    clear q5 q5' q5''
    rw [hwc, hg6] at y0 y1
    rw [hwc] at x0 x1
    go_wp2_with fail
    rw [← hwc] at x0 x1 y0 y1 ⊢
    clear hwc h6 hb6 k6 H5 x0 x1 y0 y1
    refine (imul_any _ _ _ _ _ _ _ _ _ _ _ B5.out.hz.at_ B6.out.hz.at_ fdp.sm fNp.sm (fdp.mulok _)).mono ?_
    rintro e w7 ⟨n7, A7, l7, c7, rfl, h7, hb7⟩
    rw [hXe.out] at h7
    have H7 := Lib.hid h7
    replace Hb := Lib.hid (Hb.out.trans (hb7.mono Hb.out.size))
    clear h7 hb7 B5 B6
    go_wp2_with fail
    refine (logarithm_all _ _ _ _ X _ H7.out.at_ siX smX).mono ?_
    rintro e w8 ⟨⟨k, rfl, hk⟩, hb8⟩
    replace Hb := Lib.hid (Hb.out.trans (hb8.mono Hb.out.size))
    have hk2 : k ≤ 1300 := by
      refine Classical.byContradiction fun hn => ?_
      have h1 := hk.least (k - 1) (by omega)
      have h2 : (2 ^ 100) ^ 13 ≤ 2 ^ (k - 1) := pow_mul_le (by decide) (by omega)
      have h3 : 7 ^ 9 * (8 * (2 ^ 100 * 2 ^ 100)) ^ 6 < (2 ^ 100) ^ 13 := by decide +kernel
      exact Nat.lt_irrefl X (Nat.lt_of_le_of_lt hXb (Nat.lt_trans h3 (Nat.lt_of_le_of_lt h2 h1)))
    obtain ⟨s, hs⟩ : ∃ s, s = (k + 1) / 2 := ⟨_, rfl⟩
    have HV := Lib.hid (show SepV F s from .inr ⟨by rw [← HQ.out, Hd.out]; omega, k, by rw [← HQ.out, hsx.out]; exact hk, hs⟩)
    have q1 : IntKind.i64.wrap ((k : Int) + 1) = ((k + 1 : Nat) : Int) := by rw [IntWalk.i64_in _ (by omega)]; omega
    have q1' : (k : Int) + 1 = ((k + 1 : Nat) : Int) := by omega
    have q2 : Int.tdiv ((k + 1 : Nat) : Int) 2 = (s : Int) := by rw [hs]; rfl
    have q3 : IntKind.i64.wrap (s : Int) = (s : Int) := IntWalk.i64_in _ (by omega)
    have q4 : IntKind.i64.wrap ((k + 1 : Nat) : Int) = ((k + 1 : Nat) : Int) := IntWalk.i64_in _ (by omega)
    have hs1 : s ≤ 1000 := by omega
    obtain ⟨m, hm⟩ : ∃ m, m = k + 1 := ⟨_, rfl⟩
    rw [← hm] at q1 q1' q2 q4
    clear hk hb8 H7 hs hm hk2
    go_wp2
    go_ret
    exact ⟨⟨s, rfl, HV.out, hs1⟩, Hb.out⟩
end Go.Proofs.Ytjoenabcjioncaa
