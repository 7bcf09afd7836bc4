/- The law RootboundCauchy: the walk. -/
import Derived.Test.YtfpliceenjbclaaLow
namespace Go.Proofs.Ytfpliceenjbclaa
open Go.RowKit

theorem cst_take (p : List Int) (L n : Nat) : ∀ k, k ≤ n → cst (p.take n) L k = cst p L k := by
  intro k
  induction k with
  | zero => intro _; rfl
  | succ k ih => intro h; simp only [cst, take_getD p (show k < n by omega), ih (by omega)]
theorem rcau_trim (p : List Int) : rcau (ptrim p) = rcau p := by
  unfold rcau
  rw [plen_ptrim, plead_ptrim]
  split
  · rfl
  · rw [ptrim, cst_take p _ _ _ (by omega)]
theorem hst_tiny {p : List Int} {m : Nat} (h : Tiny m p) (k : Nat) : hst p k ≤ m := by
  induction k with
  | zero => exact Nat.zero_le _
  | succ k ih =>
    simp only [hst]
    split
    · exact h k
    · exact ih
theorem cauok_tiny {p : List Int} {m : Nat} (h : Tiny m p) (hm : m ≤ 1000000000) (h2 : 2 ≤ plen p) : CauOK p := by
  refine cauok_small (Nat.le_trans (hst_tiny h.trim _) hm) (Nat.le_trans (h.trim _) hm) ?_
  rw [plead_ptrim]
  exact plead_ne (by omega)
theorem rcau_tiny {p : List Int} {m : Nat} (h : Tiny m p) : rcau p ≤ 1 + (m + m) := by
  unfold rcau
  split
  · omega
  · have hne : plead p ≠ 0 := plead_ne (by omega)
    have h1 := cst_le p (L := (plead p).natAbs) (by omega) h (plen p - 1)
    have h2 : (plead p).natAbs ≤ m := h _
    omega
theorem prv_trim (p : List Int) : prv (ptrim p) = prv p := by unfold prv; rw [ptrim_ptrim]
theorem tiny_mem {m : Nat} {p : List Int} (h : ∀ x ∈ p, x.natAbs ≤ m) : Tiny m p := by
  intro k
  rw [List.getD_eq_getElem?_getD]
  cases e : p[k]? with
  | none => simp
  | some x => exact h x (List.mem_of_getElem? e)
theorem Tiny.prv {p : List Int} {m : Nat} (h : Tiny m p) : Tiny m (prv p) := by
  have h1 : Tiny m (ptrim p).reverse := tiny_mem fun x hx => by
    obtain ⟨k, hk⟩ := List.getElem?_of_mem (List.mem_reverse.1 hx)
    have := h.trim k
    rw [List.getD_eq_getElem?_getD, hk] at this
    exact this
  exact h1.trim
theorem fit_small {z : Int} (h : z.natAbs ≤ 4000000000) : Fit z := by
  unfold Fit
  have h1 : BB ^ 1 ≤ BB ^ 40 := Nat.pow_le_pow_right BB_pos (by omega)
  rw [Nat.pow_one] at h1
  have h2 := BB_eq
  omega

set_option maxRecDepth 100000 in
set_option maxHeartbeats 4000000 in
theorem law_cauchy (A : Option Addr) (len cap : Nat) (p : List Int) (w : World) (h : I16At w A len cap p) (hlm : len ≤ 9223372036854775807) :
    Calls Try.prog 6 #[.slice A len cap] w fun e w' => e = .returned (.bool true) ∧ Below w.heap.size w w' := by
  go_enter Try.func6, Try.ntmps6
  go_wp2_with fail
  refine (awake_any _).mono ?_
  rintro e w1 ⟨rfl, hb1⟩
  have h1 := h.below hb1
  have Hb1 := Lib.hid hb1
  clear h hb1
  go_wp2_with fail
  refine (wide_any _ _ _ 10 40000 _ _ h1 (by omega) (by omega) (by omega) hlm).mono ?_
  rintro e w2 ⟨A2, c2, rfl, h2, hb2⟩
  have ht : Tiny 40000 (wl p 10 40000) := wl_tiny p 10 40000
  have hll : (wl p 10 40000).length ≤ 10 := by rw [wl_length]; omega
  have Hb2 := Lib.hid (Hb1.out.trans (hb2.mono Hb1.out.size))
  clear h1 hb2 Hb1
  generalize wl p 10 40000 = f at *
  obtain ⟨l2, hl2⟩ : ∃ l, l = f.length := ⟨_, rfl⟩
  have Hll := Lib.hid hll
  rw [← hl2] at h2 hll ⊢
  clear hl2
  have hi64 := ht.i64 (by omega)
  have hsm := ht.trim.smp (by omega)
  have ht2 : Tiny 100000 f := fun k => Nat.le_trans (ht k) (by omega)
  have hpl : plen f ≤ 10 := by have := plen_le f; have := Hll.out; omega
  go_wp2_with fail
  refine (rcau_any _ _ _ _ _ h2 (by omega) ht2).mono ?_
  rintro e w3 ⟨rfl, rfl⟩
  obtain ⟨b, hbv⟩ : ∃ b, b = rcau f := ⟨_, rfl⟩
  have hbb : b ≤ 80001 := by rw [hbv]; exact rcau_tiny ht
  rw [← hbv]
  have Hbv := Lib.hid hbv
  clear hbv
  go_wp2_with fail
  refine (poly_any _ _ _ _ _ h2 hi64 (by omega)).mono ?_
  rintro e w3 ⟨A3, l3, c3, rfl, h3, hb3⟩
  have h23 := h2.below hb3
  have Hb3 := Lib.hid (Hb2.out.trans (hb3.mono Hb2.out.size))
  have hl3 : l3 ≤ 10 := by rw [← h3.length, ptrim_length]; exact hpl
  clear hb3 h2 Hb2
  go_wp2_with fail
  refine (cauchy_any ikN _ _ _ _ _ h3 hsm (by omega) (fun h2 => cauok_tiny ht.trim (by omega) h2)).mono ?_
  rintro e w4 ⟨n4, A4, l4, c4, rfl, h4, hb4⟩
  rw [cau_rcau, rcau_trim, ← Hbv.out] at h4
  have h24 := h23.below hb4
  have Hb4 := Lib.hid (Hb3.out.trans (hb4.mono Hb3.out.size))
  have hi64b : I64 (b : Int) := by unfold I64; omega
  clear hb4 h23 h3 Hb3
  go_wp2_with fail
  refine (is_any _ _ _ _ _ _ _ h4.at_ (SmI.of64 hi64b) hi64b).mono ?_
  rintro e w5 ⟨rfl, hb5⟩
  rw [show decide ((b : Int) = (b : Int)) = true from decide_eq_true rfl]
  have h25 := h24.below hb5
  have Hb5 := Lib.hid (Hb4.out.trans (hb5.mono Hb4.out.size))
  clear hb5 h24 h4 Hb4
  go_wp2_with fail
  refine (poly_any _ _ _ _ _ h25 hi64 (by omega)).mono ?_
  rintro e w6 ⟨A6, l6, c6, rfl, h6, hb6⟩
  have h26 := h25.below hb6
  have Hb6 := Lib.hid (Hb5.out.trans (hb6.mono Hb5.out.size))
  have hl6 : l6 ≤ 10 := by rw [← h6.length, ptrim_length]; exact hpl
  clear hb6 h25 Hb5
  go_wp2_with fail
  refine (plog_any ikN _ _ _ _ _ h6 hsm (by omega) (fun h2 => cauok_tiny ht.trim (by omega) h2) (by rw [rcau_trim, ← Hbv.out]; omega)).mono ?_
  rintro e w7 ⟨⟨k, rfl, hk⟩, hb7⟩
  rw [rcau_trim, ← Hbv.out] at hk
  have hk50 : k ≤ 17 := by
    rcases Nat.lt_or_ge 17 k with h1 | h1
    · have := hk.least 17 h1
      omega
    · exact h1
  have h27 := h26.below hb7
  have Hb7 := Lib.hid (Hb6.out.trans (hb7.mono Hb6.out.size))
  have Hk := Lib.hid hk
  clear hb7 h26 h6 Hb6 hk
  go_wp2_with fail
  refine (rlog_any _ k _ (by omega) Hk.out.le Hk.out.least).mono ?_
  rintro e w8 ⟨rfl, rfl⟩
  go_wp2_with fail
  refine (rrev_any _ _ _ _ _ h27 (by omega)).mono ?_
  rintro e w9 ⟨A9, c9, rfl, h9, hb9⟩
  have h29 := h27.below hb9
  have Hb9 := Lib.hid (Hb7.out.trans (hb9.mono Hb7.out.size))
  have htp := ht.prv
  have hpl9 : plen (ptrim f).reverse ≤ 10 := by
    have h5 := plen_le (ptrim f).reverse
    rw [List.length_reverse, ptrim_length] at h5
    omega
  clear hb9 h27 Hb7 Hk hk50
  go_wp2_with fail
  refine (rcau_any _ _ _ _ _ h9 (by omega) (fun k => Nat.le_trans (htp k) (by omega))).mono ?_
  rintro e w8 ⟨rfl, rfl⟩
  obtain ⟨r, hrv⟩ : ∃ r, r = rcau (prv f) := ⟨_, rfl⟩
  have hrb : r ≤ 80001 := by rw [hrv]; exact rcau_tiny htp
  have e9 : rcau (ptrim (ptrim f).reverse) = r := hrv.symm
  rw [e9]
  have Hrv := Lib.hid hrv
  have hokr : ∀ g, prv g = prv f → (2 ≤ plen (prv g) → CauOK (prv g)) := fun g hg h2 => by rw [hg] at h2 ⊢; exact cauok_tiny htp (by omega) h2
  have hlow := hokr (ptrim f) (prv_trim f)
  have Hlow := Lib.hid hlow
  clear h9 hrv e9 hpl9 hokr hlow
  by_cases hr0 : r = 0
  · subst hr0
    go_wp2_with fail
    refine (poly_any _ _ _ _ _ h29 hi64 (by omega)).mono ?_
    rintro e w10 ⟨A10, l10, c10, rfl, h10, hb10⟩
    have Hb10 := Lib.hid (Hb9.out.trans (hb10.mono Hb9.out.size))
    have hl10 : l10 ≤ 10 := by rw [← h10.length, ptrim_length]; exact hpl
    clear hb10 h29 Hb9
    go_wp2_with fail
    refine (lower_any ikN _ _ _ _ _ h10 hsm (by omega) Hlow.out (by rw [prv_trim, ← Hrv.out]; omega)).mono ?_
    rintro e w11 ⟨⟨n, B, l, c, C, m, d, rfl, hz, hq⟩, hb11⟩
    have ez : lowz (ptrim f) = 0 := by unfold lowz; rw [prv_trim, ← Hrv.out]; rfl
    have eq : lowq (ptrim f) = 1 := by unfold lowq; rw [prv_trim, ← Hrv.out]; rfl
    rw [ez] at hz
    rw [eq] at hq
    have Hb11 := Lib.hid (Hb10.out.trans (hb11.mono Hb10.out.size))
    clear hb11 h10 Hb10 ez eq
    go_wp2_with fail
    refine (rsign_any _ _ _ _ _ _ _ _ _ _ hz.at_ hq.at_ (sm_small (by omega)) SmI.zero (by omega)).mono ?_
    rintro e w12 ⟨rfl, hb12⟩
    rw [show sg 0 = 0 from rfl]
    have Hb12 := Lib.hid (Hb11.out.trans (hb12.mono Hb11.out.size))
    clear hb12 hz hq Hb11
    go_wp2
    go_ret
    exact ⟨rfl, Hb12.out⟩
  · have hr1 : ((r : Int) == 0) = false := by rw [beq_eq_false_iff_ne]; omega
    have hrB : r < BB := by rw [BB_eq]; omega
    have hrp : 0 < r := by omega
    have hu1 : U64 (1 : Int).natAbs := by unfold U64; rw [BB_eq]; show 1 < _; omega
    have hir : I64 (r : Int) := by unfold I64; omega
    clear hr0
    go_wp2_with fail
    refine (iof_any 1 _ (by unfold I64; omega)).mono ?_
    rintro e w10 ⟨n10, A10, l10, c10, rfl, h10, hb10⟩
    have h210 := h29.below hb10
    have Hb10 := Lib.hid (Hb9.out.trans (hb10.mono Hb9.out.size))
    clear hb10 h29 Hb9
    go_wp2_with fail
    refine (iof_any _ _ hir).mono ?_
    rintro e w11 ⟨n11, A11, l11, c11, rfl, h11, hb11⟩
    have h211 := h210.below hb11
    have h1011 := h10.below hb11
    have Hb11 := Lib.hid (Hb10.out.trans (hb11.mono Hb10.out.size))
    clear hb11 h210 h10 Hb10
    go_wp2_with fail
    refine (make_pos _ _ _ _ _ _ _ _ _ _ _ h1011 h11 hu1 hrB hrp).mono ?_
    rintro e w12 ⟨⟨n, B, l, c, C, m, d, rfl, hz, hq⟩, hb12⟩
    rw [show ((1 : Int).natAbs).gcd r = 1 from Nat.gcd_one_left r] at hz hq
    rw [Nat.div_one] at hq
    have hba : Below w12.heap.size w12 (w12.alloc (rbox n B l c C m d)) := (Below.refl _ _).alloc (Nat.le_refl _) _
    have h212 := (h211.below hb12).below hba
    have HX := Lib.hid (RBox.make (z := 1) hz hq)
    have Hb12 := Lib.hid ((Hb11.out.trans (hb12.mono Hb11.out.size)).trans (hba.mono (Hb11.out.trans (hb12.mono Hb11.out.size)).size))
    clear hb12 hba h211 h1011 h11 hz hq Hb11
    have x0 := HX.out.c0
    have x1 := HX.out.c1
    have x2 := HX.out.c2
    have H212 := Lib.hid h212
    clear h212
    have ez : lowz (ptrim f) = 1 := by unfold lowz; rw [prv_trim, ← Hrv.out]; exact if_neg (by omega)
    have eq : lowq (ptrim f) = r := by unfold lowq; rw [prv_trim, ← Hrv.out]; exact if_neg (by omega)
    have Ez := Lib.hid ez
    have Eq := Lib.hid eq
    have hlb : rcau (prv (ptrim f)) ≤ 1000000000 := by rw [prv_trim, ← Hrv.out]; omega
    have f1 : Fit 1 := fit_small (by decide)
    have fr : Fit (r : Int) := fit_small (by omega)
    have hrn : r ≠ 0 := by omega
    have hcm := Lib.hid (show cmpz (1 * (r : Int)) (1 * (r : Int)) = 0 from by unfold cmpz; rw [if_neg (by omega), if_pos rfl])
    have hl210 : l2 ≤ 1099511627776 := by omega
    clear ez eq
    go_wp2_with fail
    go_region_held3 (fun w' => w'.cell? ⟨w12.heap.size, 0, none⟩ = some (.bool n) ∧ w'.cell? ⟨w12.heap.size, 1, none⟩ = some (.slice B l c) ∧ w'.cell? ⟨w12.heap.size, 2, none⟩ = some (.slice C m d)) (go_keep) (first
      | (go_at_call 21; go_must (refine (poly_any _ _ _ _ _ ?_ hi64 hl210).mono ?_; (exact H212.out.below (by (repeat (first | exact Below.refl _ _ | refine Below.drew ?_ | refine Below.alloc ?_ (by first | (simp; done) | (simp; omega) | omega) _ | refine Below.setCell ?_ (by first | (simp; done) | (simp; omega) | omega) _)))); rintro e w13 ⟨A13, l13, c13, rfl, h13, hb13⟩; have HX13 := Lib.hid (HX.out.move (Below.trans (by (repeat (first | exact Below.refl _ _ | refine Below.drew ?_ | refine Below.alloc ?_ (by first | (simp; done) | (simp; omega) | omega) _ | refine Below.setCell ?_ (by first | (simp; done) | (simp; omega) | omega) _))) (hb13.mono (by simp <;> omega)))); have Hb13 := Lib.hid (Hb12.out.trans ((Below.trans (by (repeat (first | exact Below.refl _ _ | refine Below.drew ?_ | refine Below.alloc ?_ (by first | (simp; done) | (simp; omega) | omega) _ | refine Below.setCell ?_ (by first | (simp; done) | (simp; omega) | omega) _))) (hb13.mono (by simp <;> omega))).mono Hb12.out.size)); have hl13 : l13 ≤ 1099511627776 := (by have := h13.length; have := ptrim_length f; omega); have y0 := HX13.out.c0; have y1 := HX13.out.c1; have y2 := HX13.out.c2))
      | (go_at_call 37; go_must (refine (lower_any ikN _ _ _ _ _ ?_ hsm hl13 Hlow.out hlb).mono ?_; (exact h13.below ikN (by (repeat (first | exact Below.refl _ _ | refine Below.drew ?_ | refine Below.alloc ?_ (by first | (simp; done) | (simp; omega) | omega) _ | refine Below.setCell ?_ (by first | (simp; done) | (simp; omega) | omega) _)))); rintro e w14 ⟨⟨n4, A4, l4, c4, B4, m4, d4, rfl, h4, h5⟩, hb14⟩; rw [Ez.out] at h4; rw [Eq.out] at h5; have HX14 := Lib.hid (HX13.out.move (Below.trans (by (repeat (first | exact Below.refl _ _ | refine Below.drew ?_ | refine Below.alloc ?_ (by first | (simp; done) | (simp; omega) | omega) _ | refine Below.setCell ?_ (by first | (simp; done) | (simp; omega) | omega) _))) (hb14.mono (by simp <;> omega)))); have Hb14 := Lib.hid (Hb13.out.trans ((Below.trans (by (repeat (first | exact Below.refl _ _ | refine Below.drew ?_ | refine Below.alloc ?_ (by first | (simp; done) | (simp; omega) | omega) _ | refine Below.setCell ?_ (by first | (simp; done) | (simp; omega) | omega) _))) (hb14.mono (by simp <;> omega))).mono Hb13.out.size)); have u0 := HX14.out.c0; have u1 := HX14.out.c1; have u2 := HX14.out.c2))
      | (go_at_call 40; go_must (refine (rcmp_any _ _ _ _ _ _ _ _ _ _ _ _ _ _ _ _ _ _ _ ?_ ?_ ?_ ?_ hrn hrn f1 fr f1 fr).mono ?_; (exact h4.at_.below (by (repeat (first | exact Below.refl _ _ | refine Below.drew ?_ | refine Below.alloc ?_ (by first | (simp; done) | (simp; omega) | omega) _ | refine Below.setCell ?_ (by first | (simp; done) | (simp; omega) | omega) _)))); (exact h5.at_.below (by (repeat (first | exact Below.refl _ _ | refine Below.drew ?_ | refine Below.alloc ?_ (by first | (simp; done) | (simp; omega) | omega) _ | refine Below.setCell ?_ (by first | (simp; done) | (simp; omega) | omega) _)))); (exact HX14.out.hz.at_.below (by (repeat (first | exact Below.refl _ _ | refine Below.drew ?_ | refine Below.alloc ?_ (by first | (simp; done) | (simp; omega) | omega) _ | refine Below.setCell ?_ (by first | (simp; done) | (simp; omega) | omega) _)))); (exact HX14.out.hq.at_.below (by (repeat (first | exact Below.refl _ _ | refine Below.drew ?_ | refine Below.alloc ?_ (by first | (simp; done) | (simp; omega) | omega) _ | refine Below.setCell ?_ (by first | (simp; done) | (simp; omega) | omega) _)))); rintro e w15 ⟨rfl, hb15⟩; rw [hcm.out]; have HX15 := Lib.hid (HX14.out.move (Below.trans (by (repeat (first | exact Below.refl _ _ | refine Below.drew ?_ | refine Below.alloc ?_ (by first | (simp; done) | (simp; omega) | omega) _ | refine Below.setCell ?_ (by first | (simp; done) | (simp; omega) | omega) _))) (hb15.mono (by simp <;> omega)))); have Hb15 := Lib.hid (Hb14.out.trans ((Below.trans (by (repeat (first | exact Below.refl _ _ | refine Below.drew ?_ | refine Below.alloc ?_ (by first | (simp; done) | (simp; omega) | omega) _ | refine Below.setCell ?_ (by first | (simp; done) | (simp; omega) | omega) _))) (hb15.mono (by simp <;> omega))).mono Hb14.out.size)); have v0 := HX15.out.c0; have v1 := HX15.out.c1; have v2 := HX15.out.c2)))
    go_wp2
    go_ret
    exact ⟨rfl, Hb15.out⟩
end Go.Proofs.Ytfpliceenjbclaa
