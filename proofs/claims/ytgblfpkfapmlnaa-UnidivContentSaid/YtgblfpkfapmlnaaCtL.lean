/- The walk of the law UnidivContent: it answers true, and only makes new memory. -/
import Derived.Test.YtgblfpkfapmlnaaFew
import Derived.Test.YtgblfpkfapmlnaaAwl
import Derived.Test.YtgblfpkfapmlnaaZov
import Derived.Test.YtgblfpkfapmlnaaBtr
namespace Go.Proofs.Ytgblfpkfapmlnaa
open Go.RowKit

theorem pcs_le {X Y : Nat} {f g : List Int} (hf : ∀ j, (f.getD j 0).natAbs ≤ X) (hg : ∀ j, (g.getD j 0).natAbs ≤ Y) (k : Nat) : ∀ m, (pcs f g k m).natAbs ≤ m * (X * Y)
  | 0 => by simp [pcs]
  | m + 1 => by
    rw [pcs]
    have h1 := pcs_le hf hg k m
    have h2 : (f.getD m 0 * g.getD (k - m) 0).natAbs ≤ X * Y := by rw [Int.natAbs_mul]; exact Nat.mul_le_mul (hf m) (hg (k - m))
    have h3 := Int.natAbs_add_le (pcs f g k m) (f.getD m 0 * g.getD (k - m) 0)
    rw [Nat.succ_mul]
    omega
theorem polymul_len_le (f g : List Int) : (polymul f g).length ≤ f.length + g.length := by
  unfold polymul
  split
  · exact Nat.zero_le _
  · rw [pmul_length]; omega
theorem polymul_le {X Y : Nat} {f g : List Int} (hf : ∀ j, (f.getD j 0).natAbs ≤ X) (hg : ∀ j, (g.getD j 0).natAbs ≤ Y) (k : Nat) : ((polymul f g).getD k 0).natAbs ≤ (f.length + g.length) * (X * Y) := by
  by_cases h : k < f.length + g.length
  · rw [polymul_getD]
    exact Nat.le_trans (pcs_le hf hg k (k + 1)) (Nat.mul_le_mul_right _ (by omega))
  · rw [getD_out _ (by have := polymul_len_le f g; omega)]; simp
theorem fit_sm {p : List Int} {X : Nat} (h : ∀ j, (p.getD j 0).natAbs ≤ X) (hX : X < BB ^ 40) : FitP p := fun j => Nat.lt_of_le_of_lt (h j) hX

theorem pprim_ptrim (f : List Int) : pprim (ptrim f) = pprim f := by
  unfold pprim
  rw [plen_ptrim, ptrim_ptrim, show plead (ptrim f) = plead f by unfold plead; rw [plen_ptrim, ptrim_getD], pcont_trim]
theorem pprim_ab (f : List Int) (j : Nat) : ((pprim f).getD j 0).natAbs ≤ (f.getD j 0).natAbs := by
  unfold pprim
  split
  · simp
  · rw [List.getD_eq_getElem?_getD, List.getElem?_map]
    rw [show f.getD j 0 = (ptrim f).getD j 0 by rw [ptrim_getD], List.getD_eq_getElem?_getD]
    cases (ptrim f)[j]? with
    | none => simp
    | some x => simp [Int.natAbs_tdiv]; exact Nat.div_le_self _ _
theorem pprim_len (f : List Int) : (pprim f).length = plen f := by
  unfold pprim
  split
  · rename_i h; rw [h]; rfl
  · rw [List.length_map, ptrim_length]
set_option maxRecDepth 100000 in
set_option maxHeartbeats 8000000 in
theorem law_content (A : Option Addr) (la ca : Nat) (f : List Int) (B : Option Addr) (lb cb : Nat) (g : List Int) (w : World) (hf : PolyP IntR w A la ca f) (hg : PolyP IntR w B lb cb g) :
    Calls Try.prog 4 #[.slice A la ca, .slice B lb cb] w fun e w' => e = .returned (.bool true) ∧ Below w.heap.size w w' := by
  go_enter Try.func4, Try.ntmps4
  go_wp2_with fail
  refine (awake9_any _).mono ?_
  rintro e w1 ⟨rfl, hb1⟩
  have hf1 := PolyR.below hf hb1
  have hg1 := PolyR.below hg hb1
  have Hb1 := Lib.hid hb1
  clear hf hg hb1
  go_wp2_with fail
  refine (few_any 8 2 _ _ _ _ _ _ _ _ _ hf1 hg1 (by omega) (by omega)).mono ?_
  rintro e w2 ⟨⟨b, rfl, hq⟩, rfl⟩
  clear hf1 hg1
  cases b with
  | false =>
    clear hq
    go_wp2_with fail
    refine (awake9_any _).mono ?_
    rintro e w3 ⟨rfl, hb3⟩
    have Hb3 := Lib.hid (Hb1.out.trans (hb3.mono Hb1.out.size))
    clear hb3 Hb1
    go_wp2
    go_ret
    exact ⟨rfl, Hb3.out⟩
  | true =>
    obtain ⟨qf, qg⟩ := hq rfl
    have hla := qf.le
    have hlb := qg.le
    have Ff0 := Lib.hid qf.lt
    have Gg0 := Lib.hid qg.lt
    have hf2 := qf.at_
    have hg2 := qg.at_
    have fitf : FitP f := fun k => pow_fit (Ff0.out k) (by omega)
    have fitg : FitP g := fun k => pow_fit (Gg0.out k) (by omega)
    have lf : f.length = la := hf2.length
    have lg : g.length = lb := hg2.length
    have hpf := plen_le f
    have hpg := plen_le g
    have Df := Lib.hid (fun j => (show dlen (f.getD j 0).natAbs ≤ 1000 from Nat.le_trans (dlen_le_of_lt (Ff0.out j)) (by decide)))
    have hmb : ∀ k, ((polymul (ptrim f) (ptrim g)).getD k 0).natAbs ≤ 16 * (BB ^ 2 * BB ^ 2) := fun k =>
      Nat.le_trans (polymul_le (X := BB ^ 2) (Y := BB ^ 2) (fun j => by rw [ptrim_getD]; exact Nat.le_of_lt (Ff0.out j)) (fun j => by rw [ptrim_getD]; exact Nat.le_of_lt (Gg0.out j)) k) (Nat.mul_le_mul_right _ (by rw [ptrim_length, ptrim_length]; omega))
    have fitm : FitP (polymul (ptrim f) (ptrim g)) := fit_sm hmb (by rw [BBp]; decide +kernel)
    have hml := polymul_len_le (ptrim f) (ptrim g)
    rw [ptrim_length, ptrim_length] at hml
    have Sm0 := Lib.hid (pcont_sm fitf.smp)
    have Sg0 := Lib.hid (pcont_sm fitg.smp)
    have Sm1 := Lib.hid (pcont_sm fitm.smp)
    have Fm := Lib.hid fitm
    have Hcm := Lib.hid (show ((pcont (polymul (ptrim f) (ptrim g)) : Nat) : Int) = ((pcont f : Nat) : Int) * ((pcont g : Nat) : Int) by rw [pcont_mul, pcont_trim, pcont_trim]; exact Int.natCast_mul _ _)
    have hpc : ∀ p : List Int, FitP p → Fit ((pcont p : Nat) : Int) := fun p hp => by
      by_cases h0 : plen p = 0
      · rw [pcont_zero h0]; exact fit_unit (by decide)
      · have h1 := pcont_get p (plen p - 1)
        have h2 : p.getD (plen p - 1) 0 ≠ 0 := plead_ne h0
        unfold Fit
        rw [Int.natAbs_natCast]
        exact Nat.lt_of_le_of_lt (Nat.le_of_dvd (Int.natAbs_pos.2 h2) h1) (hp _)
    have Mk := Lib.hid ((hpc f fitf).mulok ((pcont g : Nat) : Int))
    have Ff := Lib.hid fitf
    have zf : ZB 1000 (ptrim f) := fun k => by
      rw [ptrim_getD]
      exact Nat.le_trans (bln_mono (Nat.le_of_lt (Ff0.out k))) (by rw [bb_pow]; exact Nat.le_trans (bln_pow (E := 64) (Nat.le_refl _)) (by decide))
    have Zf := Lib.hid (ZB.mono zf (show 1000 ≤ 400000 by decide))
    have Zc := Lib.hid (show bln (pcont f) ≤ 1000 by have := pcont_take_bln zf (ptrim f).length; rwa [List.take_length, pcont_trim] at this)
    have Zp := Lib.hid (show ZB 1000000 (pprim f) from fun k => Nat.le_trans (bln_mono (pprim_ab f k)) (Nat.le_trans (by have := zf k; rwa [ptrim_getD] at this) (by decide)))
    have Fg := Lib.hid fitg
    have HF := Lib.hid hf2
    have HG := Lib.hid hg2
    have pfb : plen f ≤ 8 := by omega
    have pgb : plen g ≤ 8 := by omega
    clear hq qf qg hf2 hg2 fitg lf lg hpf hpg fitf hmb fitm hpc
    go_wp2_with fail
    refine (lof_any ikAt _ _ _ f _ HF.out (by omega) Df.out).mono ?_
    rintro e w3 ⟨A3, l3, c3, rfl, h3, _, hb3⟩
    have hl3 : l3 = plen f := by rw [← h3.length, ptrim_length]
    subst hl3
    have HX := Lib.hid h3
    have HF3 := Lib.hid (HF.out.below ikAt hb3)
    have HG3 := Lib.hid (HG.out.below ikAt hb3)
    have Hb3 := Lib.hid (Hb1.out.trans (hb3.mono Hb1.out.size))
    clear h3 hb3 HF HG Hb1
    go_wp2_with fail
    refine (content_any ikAt _ _ _ f _ HF3.out Ff.out.smp (by omega)).mono ?_
    rintro e w4 ⟨n4, A4, l4, c4, rfl, h4, hb4⟩
    have H6 := Lib.hid (IBox.make h4)
    have hb4' : Below w3.heap.size w3 (w4.alloc (ibox n4 A4 l4 c4)) := hb4.alloc hb4.size _
    have HX4 := Lib.hid (HX.out.below hb4')
    have HF4 := Lib.hid (HF3.out.below ikAt hb4')
    have HG4 := Lib.hid (HG3.out.below ikAt hb4')
    have Hb4 := Lib.hid (Hb3.out.trans (hb4'.mono Hb3.out.size))
    clear h4 hb4 hb4' HF3 HG3 HX Hb3
    go_wp2_with fail
    obtain ⟨g6, hg6⟩ : ∃ g6, g6 = w4.heap.size := ⟨_, rfl⟩
    obtain ⟨wa, hwa⟩ : ∃ wa, wa = w4.alloc (ibox n4 A4 l4 c4) := ⟨_, rfl⟩
    rw [← hg6, ← hwa] at H6
    rw [← hwa] at HX4 HF4 HG4 Hb4
    show Calls _ _ _ (w4.alloc (ibox n4 A4 l4 c4)) _
    rw [← hg6, ← hwa]
    clear hg6 hwa
    refine (polymul_any ikAt ikAt _ _ _ f _ _ _ g _ HF4.out HG4.out Ff.out Fg.out (by omega) (by omega)).mono ?_
    rintro e w5 ⟨A5, l5, c5, rfl, h5, hb5⟩
    have hl5 : l5 ≤ 16 := by rw [← h5.length]; omega
    have H5 := Lib.hid h5
    have H65 := Lib.hid (H6.out.move hb5)
    have HX5 := Lib.hid (HX4.out.below hb5)
    have HF5 := Lib.hid (HF4.out.below ikAt hb5)
    have HG5 := Lib.hid (HG4.out.below ikAt hb5)
    have Hb5 := Lib.hid (Hb4.out.trans (hb5.mono Hb4.out.size))
    clear h5 hb5 H6 HX4 HF4 HG4 Hb4
    go_wp2_with fail
    refine (content_any ikN _ _ _ (polymul (ptrim f) (ptrim g)) _ H5.out Fm.out.smp (by omega)).mono ?_
    rintro e w6 ⟨n6, A6, l6, c6, rfl, h6, hb6⟩
    have H7 := Lib.hid (IBox.make h6)
    have hb6' : Below w5.heap.size w5 (w6.alloc (ibox n6 A6 l6 c6)) := hb6.alloc hb6.size _
    have H66 := Lib.hid (H65.out.move hb6')
    have HX6 := Lib.hid (HX5.out.below hb6')
    have HF6 := Lib.hid (HF5.out.below ikAt hb6')
    have HG6 := Lib.hid (HG5.out.below ikAt hb6')
    have Hb6 := Lib.hid (Hb5.out.trans (hb6'.mono Hb5.out.size))
    clear h6 hb6 hb6' H5 H65 HX5 HF5 HG5 Hb5
    go_wp2_with fail
    obtain ⟨g7, hg7⟩ : ∃ g7, g7 = w6.heap.size := ⟨_, rfl⟩
    obtain ⟨wb, hwb⟩ : ∃ wb, wb = w6.alloc (ibox n6 A6 l6 c6) := ⟨_, rfl⟩
    rw [← hg7, ← hwb] at H7
    rw [← hwb] at H66 HX6 HF6 HG6 Hb6
    simp only [← hg7, ← hwb]
    clear hg7 hwb
    have a0 := H66.out.c0
    have a1 := H66.out.c1
    have b0 := H7.out.c0
    have b1 := H7.out.c1
    refine wp_region_held_drew (S := fun w' => (w'.cell? ⟨g6, 0, none⟩ = some (.bool n4) ∧ w'.cell? ⟨g6, 1, none⟩ = some (.slice A4 l4 c4)) ∧ w'.cell? ⟨g7, 0, none⟩ = some (.bool n6) ∧ w'.cell? ⟨g7, 1, none⟩ = some (.slice A6 l6 c6)) (by kernel_rfl) (by (try dsimp only); go_keep) (fun hHeld => ?_)
    (refine take_at (i := 0) (oi := _) (v := ?_) rfl rfl (by kernel_rfl) (by kernel_rfl) (by kernel_rfl) (fun _ _ _ h => h) (Or.inl ⟨by rfl, ?_⟩) (by assumption) ?_; rotate_left; (focus (intro w hSw; (try dsimp only at hSw); go_simp; (try with_reducible rfl))); (simp only [put_lit, List.set]))
    (refine take_at (i := 1) (oi := _) (v := ?_) rfl rfl (by kernel_rfl) (by kernel_rfl) (by kernel_rfl) (fun _ _ _ h => h) (Or.inl ⟨by rfl, ?_⟩) (by assumption) ?_; rotate_left; (focus (intro w hSw; (try dsimp only at hSw); go_simp; (try with_reducible rfl))); (simp only [put_lit, List.set]))
    (refine take_at (i := 2) (oi := _) (v := ?_) rfl rfl (by kernel_rfl) (by kernel_rfl) (by kernel_rfl) (fun _ _ _ h => h) (Or.inl ⟨by rfl, ?_⟩) (by assumption) ?_; rotate_left; (focus (intro w hSw; (try dsimp only at hSw); go_simp; (try with_reducible rfl))); (simp only [put_lit, List.set]))
    (refine take_at (i := 3) (oi := _) (v := ?_) rfl rfl (by kernel_rfl) (by kernel_rfl) (by kernel_rfl) (fun _ _ _ h => h) (Or.inl ⟨by rfl, ?_⟩) (by assumption) ?_; rotate_left; (focus (intro w hSw; (try dsimp only at hSw); go_simp; (try with_reducible rfl))); (simp only [put_lit, List.set]))
    (refine take_at (i := 4) (oi := _) (v := ?_) rfl rfl (by kernel_rfl) (by kernel_rfl) (by kernel_rfl) (fun _ _ _ h => h) (Or.inl ⟨by rfl, ?_⟩) (by assumption) ?_; rotate_left; (focus (intro w hSw; (try dsimp only at hSw); go_simp; (try with_reducible rfl))); (simp only [put_lit, List.set]))
    refine wpAnyH_ready (rs := [5]) (by kernel_rfl) (by simp) ?_
    refine AllReadyH.cons rfl (fun K hK => ?_) AllReadyH.nil; go_simp
    refine (zcontent_any _ _ _ (ptrim f) _ (HX6.out.below (by (repeat (first | exact Below.refl _ _ | refine Below.drew ?_ | refine Below.alloc ?_ (by first | (simp; done) | (simp; omega) | omega) _ | refine Below.setCell ?_ (by first | (simp; done) | (simp; omega) | omega) _)))) (by omega) Zf.out).mono ?_
    rintro e w7 ⟨s7, A7, l7, c7, rfl, h7, hb7⟩
    rw [pcont_trim] at h7
    obtain ⟨hcx, hfx⟩ := bcellS hb7
    have hb8 : Below wb.heap.size wb w7 := Below.trans (by (repeat (first | exact Below.refl _ _ | refine Below.drew ?_ | refine Below.alloc ?_ (by first | (simp; done) | (simp; omega) | omega) _ | refine Below.setCell ?_ (by first | (simp; done) | (simp; omega) | omega) _))) (hb7.mono (by simp <;> omega))
    have Z7 := Lib.hid h7
    have H67 := Lib.hid (H66.out.move hb8)
    have H77 := Lib.hid (H7.out.move hb8)
    have HX7 := Lib.hid (HX6.out.below hb8)
    have HF7 := Lib.hid (HF6.out.below ikAt hb8)
    have HG7 := Lib.hid (HG6.out.below ikAt hb8)
    have Hb7 := Lib.hid (Hb6.out.trans (hb8.mono Hb6.out.size))
    have L7 : l7 ≤ 1000000 := by have := h7.len; rw [Int.natAbs_natCast] at this; have := Zc.out; omega
    refine hK.out _ _ ?_ (fun _ => ?_)
    · exact ⟨⟨(hcx _ (by go_simp)).trans (by go_simp), (hcx _ (by go_simp)).trans (by go_simp)⟩, (hcx _ (by go_simp)).trans (by go_simp), (hcx _ (by go_simp)).trans (by go_simp)⟩
    clear hHeld hK K hcx hfx; rename_i hHeld
    clear h7 hb7 hb8 H66 H7 HX6 HF6 HG6 Hb6 a0 a1 b0 b1
    refine wpAnyH_ready (rs := [6]) (by kernel_rfl) (by simp) ?_
    refine AllReadyH.cons rfl (fun K hK => ?_) AllReadyH.nil; go_simp
    refine (zis_any _ _ _ _ ((pcont f : Nat) : Int) _ _ _ _ _ (H67.out.hz.below (by (repeat (first | exact Below.refl _ _ | refine Below.drew ?_ | refine Below.alloc ?_ (by first | (simp; done) | (simp; omega) | omega) _ | refine Below.setCell ?_ (by first | (simp; done) | (simp; omega) | omega) _)))) (Z7.out.below (by (repeat (first | exact Below.refl _ _ | refine Below.drew ?_ | refine Below.alloc ?_ (by first | (simp; done) | (simp; omega) | omega) _ | refine Below.setCell ?_ (by first | (simp; done) | (simp; omega) | omega) _)))) L7).mono ?_
    rintro e w8 ⟨rfl, hb8⟩
    obtain ⟨hcx, hfx⟩ := bcellS hb8
    have hb9 : Below w7.heap.size w7 w8 := Below.trans (by (repeat (first | exact Below.refl _ _ | refine Below.drew ?_ | refine Below.alloc ?_ (by first | (simp; done) | (simp; omega) | omega) _ | refine Below.setCell ?_ (by first | (simp; done) | (simp; omega) | omega) _))) (hb8.mono (by simp <;> omega))
    have H68 := Lib.hid (H67.out.move hb9)
    have H78 := Lib.hid (H77.out.move hb9)
    have HX8 := Lib.hid (HX7.out.below hb9)
    have HF8 := Lib.hid (HF7.out.below ikAt hb9)
    have HG8 := Lib.hid (HG7.out.below ikAt hb9)
    have Hb8 := Lib.hid (Hb7.out.trans (hb9.mono Hb7.out.size))
    refine hK.out _ _ ?_ (fun _ => ?_)
    · exact ⟨⟨(hcx _ (by go_simp)).trans (by go_simp), (hcx _ (by go_simp)).trans (by go_simp)⟩, (hcx _ (by go_simp)).trans (by go_simp), (hcx _ (by go_simp)).trans (by go_simp)⟩
    clear hHeld hK K hcx hfx; rename_i hHeld
    clear hb8 hb9 H67 H77 HX7 HF7 HG7 Hb7 Z7
    (refine take_at (i := 7) (oi := _) (v := ?_) rfl rfl (by kernel_rfl) (by kernel_rfl) (by kernel_rfl) (fun _ _ _ h => h) (Or.inl ⟨by rfl, ?_⟩) (by assumption) ?_; rotate_left; (focus (intro w hSw; (try dsimp only at hSw); go_simp; (try with_reducible rfl))); (simp only [put_lit, List.set]))
    (refine take_at (i := 8) (oi := _) (v := ?_) rfl rfl (by kernel_rfl) (by kernel_rfl) (by kernel_rfl) (fun _ _ _ h => h) (Or.inl ⟨by rfl, ?_⟩) (by assumption) ?_; rotate_left; (focus (intro w hSw; (try dsimp only at hSw); go_simp; (try with_reducible rfl))); (simp only [put_lit, List.set]))
    (refine take_at (i := 10) (oi := _) (v := ?_) rfl rfl (by kernel_rfl) (by kernel_rfl) (by kernel_rfl) (fun _ _ _ h => h) (Or.inl ⟨by rfl, ?_⟩) (by assumption) ?_; rotate_left; (focus (intro w hSw; (try dsimp only at hSw); go_simp; (try with_reducible rfl))); (simp only [put_lit, List.set]))
    refine wpAnyH_ready (rs := [9]) (by kernel_rfl) (by simp) ?_
    refine AllReadyH.cons rfl (fun K hK => ?_) AllReadyH.nil; go_simp
    refine (primitive_any ikAt _ _ _ f _ (HF8.out.below ikAt (by (repeat (first | exact Below.refl _ _ | refine Below.drew ?_ | refine Below.alloc ?_ (by first | (simp; done) | (simp; omega) | omega) _ | refine Below.setCell ?_ (by first | (simp; done) | (simp; omega) | omega) _)))) Ff.out.smp (by omega)).mono ?_
    rintro e w9 ⟨A9, l9, c9, rfl, h9, hb9⟩
    obtain ⟨hcx, hfx⟩ := bcellS hb9
    have hb0 : Below w8.heap.size w8 w9 := Below.trans (by (repeat (first | exact Below.refl _ _ | refine Below.drew ?_ | refine Below.alloc ?_ (by first | (simp; done) | (simp; omega) | omega) _ | refine Below.setCell ?_ (by first | (simp; done) | (simp; omega) | omega) _))) (hb9.mono (by simp <;> omega))
    have P9 := Lib.hid h9
    have H69 := Lib.hid (H68.out.move hb0)
    have H79 := Lib.hid (H78.out.move hb0)
    have HX9 := Lib.hid (HX8.out.below hb0)
    have HG9 := Lib.hid (HG8.out.below ikAt hb0)
    have Hb9 := Lib.hid (Hb8.out.trans (hb0.mono Hb8.out.size))
    have L9 : l9 ≤ 1000 := by rw [← h9.length, pprim_len]; omega
    refine hK.out _ _ ?_ (fun _ => ?_)
    · exact ⟨⟨(hcx _ (by go_simp)).trans (by go_simp), (hcx _ (by go_simp)).trans (by go_simp)⟩, (hcx _ (by go_simp)).trans (by go_simp), (hcx _ (by go_simp)).trans (by go_simp)⟩
    clear hHeld hK K hcx hfx; rename_i hHeld
    clear h9 hb9 hb0 H68 H78 HX8 HF8 HG8 Hb8
    refine wpAnyH_ready (rs := [11]) (by kernel_rfl) (by simp) ?_
    refine AllReadyH.cons rfl (fun K hK => ?_) AllReadyH.nil; go_simp
    refine (zprim_any _ _ _ (ptrim f) _ (HX9.out.below (by (repeat (first | exact Below.refl _ _ | refine Below.drew ?_ | refine Below.alloc ?_ (by first | (simp; done) | (simp; omega) | omega) _ | refine Below.setCell ?_ (by first | (simp; done) | (simp; omega) | omega) _)))) (ptrim_ptrim f) (by omega) Zf.out).mono ?_
    rintro e w10 ⟨A10, l10, c10, rfl, h10, _, hb10⟩
    rw [pprim_ptrim] at h10
    obtain ⟨hcx, hfx⟩ := bcellS hb10
    have hb0 : Below w9.heap.size w9 w10 := Below.trans (by (repeat (first | exact Below.refl _ _ | refine Below.drew ?_ | refine Below.alloc ?_ (by first | (simp; done) | (simp; omega) | omega) _ | refine Below.setCell ?_ (by first | (simp; done) | (simp; omega) | omega) _))) (hb10.mono (by simp <;> omega))
    have Q10 := Lib.hid h10
    have P10 := Lib.hid (P9.out.below ikN hb0)
    have H610 := Lib.hid (H69.out.move hb0)
    have H710 := Lib.hid (H79.out.move hb0)
    have HG10 := Lib.hid (HG9.out.below ikAt hb0)
    have Hb10 := Lib.hid (Hb9.out.trans (hb0.mono Hb9.out.size))
    refine hK.out _ _ ?_ (fun _ => ?_)
    · exact ⟨⟨(hcx _ (by go_simp)).trans (by go_simp), (hcx _ (by go_simp)).trans (by go_simp)⟩, (hcx _ (by go_simp)).trans (by go_simp), (hcx _ (by go_simp)).trans (by go_simp)⟩
    clear hHeld hK K hcx hfx; rename_i hHeld
    clear h10 hb10 hb0 H69 H79 HX9 HG9 Hb9 P9
    refine wpAnyH_ready (rs := [12]) (by kernel_rfl) (by simp) ?_
    refine AllReadyH.cons rfl (fun K hK => ?_) AllReadyH.nil; go_simp
    refine (lis_any _ _ _ (pprim f) _ _ _ _ (P10.out.below ikN (by (repeat (first | exact Below.refl _ _ | refine Below.drew ?_ | refine Below.alloc ?_ (by first | (simp; done) | (simp; omega) | omega) _ | refine Below.setCell ?_ (by first | (simp; done) | (simp; omega) | omega) _)))) (Q10.out.below (by (repeat (first | exact Below.refl _ _ | refine Below.drew ?_ | refine Below.alloc ?_ (by first | (simp; done) | (simp; omega) | omega) _ | refine Below.setCell ?_ (by first | (simp; done) | (simp; omega) | omega) _)))) L9 Zp.out).mono ?_
    rintro e w11 ⟨rfl, hb11⟩
    obtain ⟨hcx, hfx⟩ := bcellS hb11
    have hb0 : Below w10.heap.size w10 w11 := Below.trans (by (repeat (first | exact Below.refl _ _ | refine Below.drew ?_ | refine Below.alloc ?_ (by first | (simp; done) | (simp; omega) | omega) _ | refine Below.setCell ?_ (by first | (simp; done) | (simp; omega) | omega) _))) (hb11.mono (by simp <;> omega))
    have H611 := Lib.hid (H610.out.move hb0)
    have H711 := Lib.hid (H710.out.move hb0)
    have HG11 := Lib.hid (HG10.out.below ikAt hb0)
    have Hb11 := Lib.hid (Hb10.out.trans (hb0.mono Hb10.out.size))
    refine hK.out _ _ ?_ (fun _ => ?_)
    · exact ⟨⟨(hcx _ (by go_simp)).trans (by go_simp), (hcx _ (by go_simp)).trans (by go_simp)⟩, (hcx _ (by go_simp)).trans (by go_simp), (hcx _ (by go_simp)).trans (by go_simp)⟩
    clear hHeld hK K hcx hfx; rename_i hHeld
    clear hb11 hb0 H610 H710 HG10 Hb10 P10 Q10
    (refine take_at (i := 13) (oi := _) (v := ?_) rfl rfl (by kernel_rfl) (by kernel_rfl) (by kernel_rfl) (fun _ _ _ h => h) (Or.inl ⟨by rfl, ?_⟩) (by assumption) ?_; rotate_left; (focus (intro w hSw; (try dsimp only at hSw); go_simp; (try with_reducible rfl))); (simp only [put_lit, List.set]))
    (refine take_at (i := 14) (oi := _) (v := ?_) rfl rfl (by kernel_rfl) (by kernel_rfl) (by kernel_rfl) (fun _ _ _ h => h) (Or.inl ⟨by rfl, ?_⟩) (by assumption) ?_; rotate_left; (focus (intro w hSw; (try dsimp only at hSw); go_simp; (try with_reducible rfl))); (simp only [put_lit, List.set]))
    (refine take_at (i := 15) (oi := _) (v := ?_) rfl rfl (by kernel_rfl) (by kernel_rfl) (by kernel_rfl) (fun _ _ _ h => h) (Or.inl ⟨by rfl, ?_⟩) (by assumption) ?_; rotate_left; (focus (intro w hSw; (try dsimp only at hSw); go_simp; (try with_reducible rfl))); (simp only [put_lit, List.set]))
    (refine take_at (i := 16) (oi := _) (v := ?_) rfl rfl (by kernel_rfl) (by kernel_rfl) (by kernel_rfl) (fun _ _ _ h => h) (Or.inl ⟨by rfl, ?_⟩) (by assumption) ?_; rotate_left; (focus (intro w hSw; (try dsimp only at hSw); go_simp; (try with_reducible rfl))); (simp only [put_lit, List.set]))
    (refine take_at (i := 17) (oi := _) (v := ?_) rfl rfl (by kernel_rfl) (by kernel_rfl) (by kernel_rfl) (fun _ _ _ h => h) (Or.inl ⟨by rfl, ?_⟩) (by assumption) ?_; rotate_left; (focus (intro w hSw; (try dsimp only at hSw); go_simp; (try with_reducible rfl))); (simp only [put_lit, List.set]))
    refine wpAnyH_ready (rs := [18]) (by kernel_rfl) (by simp) ?_
    refine AllReadyH.cons rfl (fun K hK => ?_) AllReadyH.nil; go_simp
    refine (content_any ikAt _ _ _ g _ (HG11.out.below ikAt (by (repeat (first | exact Below.refl _ _ | refine Below.drew ?_ | refine Below.alloc ?_ (by first | (simp; done) | (simp; omega) | omega) _ | refine Below.setCell ?_ (by first | (simp; done) | (simp; omega) | omega) _)))) Fg.out.smp (by omega)).mono ?_
    rintro e w12 ⟨n12, A12, l12, c12, rfl, h12, hb12⟩
    obtain ⟨hcx, hfx⟩ := bcellS hb12
    have hb0 : Below w11.heap.size w11 w12 := Below.trans (by (repeat (first | exact Below.refl _ _ | refine Below.drew ?_ | refine Below.alloc ?_ (by first | (simp; done) | (simp; omega) | omega) _ | refine Below.setCell ?_ (by first | (simp; done) | (simp; omega) | omega) _))) (hb12.mono (by simp <;> omega))
    have C12 := Lib.hid h12
    have H612 := Lib.hid (H611.out.move hb0)
    have H712 := Lib.hid (H711.out.move hb0)
    have Hb12 := Lib.hid (Hb11.out.trans (hb0.mono Hb11.out.size))
    refine hK.out _ _ ?_ (fun _ => ?_)
    · exact ⟨⟨(hcx _ (by go_simp)).trans (by go_simp), (hcx _ (by go_simp)).trans (by go_simp)⟩, (hcx _ (by go_simp)).trans (by go_simp), (hcx _ (by go_simp)).trans (by go_simp)⟩
    clear hHeld hK K hcx hfx; rename_i hHeld
    clear h12 hb12 hb0 H611 H711 HG11 Hb11
    refine wpAnyH_ready (rs := [19]) (by kernel_rfl) (by simp) ?_
    refine AllReadyH.cons rfl (fun K hK => ?_) AllReadyH.nil; go_simp
    refine (imul_any _ _ _ _ ((pcont f : Nat) : Int) _ _ _ _ ((pcont g : Nat) : Int) _ (H612.out.hz.at_.below (by (repeat (first | exact Below.refl _ _ | refine Below.drew ?_ | refine Below.alloc ?_ (by first | (simp; done) | (simp; omega) | omega) _ | refine Below.setCell ?_ (by first | (simp; done) | (simp; omega) | omega) _)))) (C12.out.at_.below (by (repeat (first | exact Below.refl _ _ | refine Below.drew ?_ | refine Below.alloc ?_ (by first | (simp; done) | (simp; omega) | omega) _ | refine Below.setCell ?_ (by first | (simp; done) | (simp; omega) | omega) _)))) (by show Sm _; rw [Int.natAbs_natCast]; exact Sm0.out) (by show Sm _; rw [Int.natAbs_natCast]; exact Sg0.out) Mk.out).mono ?_
    rintro e w13 ⟨n13, A13, l13, c13, rfl, h13, hb13⟩
    rw [← Hcm.out] at h13
    obtain ⟨hcx, hfx⟩ := bcellS hb13
    have hb0 : Below w12.heap.size w12 w13 := Below.trans (by (repeat (first | exact Below.refl _ _ | refine Below.drew ?_ | refine Below.alloc ?_ (by first | (simp; done) | (simp; omega) | omega) _ | refine Below.setCell ?_ (by first | (simp; done) | (simp; omega) | omega) _))) (hb13.mono (by simp <;> omega))
    have C13 := Lib.hid h13
    have H713 := Lib.hid (H712.out.move hb0)
    have Hb13 := Lib.hid (Hb12.out.trans (hb0.mono Hb12.out.size))
    refine hK.out _ _ ?_ (fun _ => ?_)
    · exact ⟨⟨(hcx _ (by go_simp)).trans (by go_simp), (hcx _ (by go_simp)).trans (by go_simp)⟩, (hcx _ (by go_simp)).trans (by go_simp), (hcx _ (by go_simp)).trans (by go_simp)⟩
    clear hHeld hK K hcx hfx; rename_i hHeld
    clear h13 hb13 hb0 H612 H712 Hb12 C12
    refine wpAnyH_ready (rs := [20]) (by kernel_rfl) (by simp) ?_
    refine AllReadyH.cons rfl (fun K hK => ?_) AllReadyH.nil; go_simp
    refine (isame_any _ _ _ _ ((pcont (polymul (ptrim f) (ptrim g)) : Nat) : Int) _ _ _ _ ((pcont (polymul (ptrim f) (ptrim g)) : Nat) : Int) _ (H713.out.hz.at_.below (by (repeat (first | exact Below.refl _ _ | refine Below.drew ?_ | refine Below.alloc ?_ (by first | (simp; done) | (simp; omega) | omega) _ | refine Below.setCell ?_ (by first | (simp; done) | (simp; omega) | omega) _)))) (C13.out.at_.below (by (repeat (first | exact Below.refl _ _ | refine Below.drew ?_ | refine Below.alloc ?_ (by first | (simp; done) | (simp; omega) | omega) _ | refine Below.setCell ?_ (by first | (simp; done) | (simp; omega) | omega) _)))) (by show Sm _; rw [Int.natAbs_natCast]; exact Sm1.out) (by show Sm _; rw [Int.natAbs_natCast]; exact Sm1.out)).mono ?_
    rintro e w14 ⟨rfl, hb14⟩
    rw [show decide (((pcont (polymul (ptrim f) (ptrim g)) : Nat) : Int) = ((pcont (polymul (ptrim f) (ptrim g)) : Nat) : Int)) = true from decide_eq_true rfl]
    obtain ⟨hcx, hfx⟩ := bcellS hb14
    have hb0 : Below w13.heap.size w13 w14 := Below.trans (by (repeat (first | exact Below.refl _ _ | refine Below.drew ?_ | refine Below.alloc ?_ (by first | (simp; done) | (simp; omega) | omega) _ | refine Below.setCell ?_ (by first | (simp; done) | (simp; omega) | omega) _))) (hb14.mono (by simp <;> omega))
    have Hb14 := Lib.hid (Hb13.out.trans (hb0.mono Hb13.out.size))
    refine hK.out _ _ ?_ (fun _ => ?_)
    · exact ⟨⟨(hcx _ (by go_simp)).trans (by go_simp), (hcx _ (by go_simp)).trans (by go_simp)⟩, (hcx _ (by go_simp)).trans (by go_simp), (hcx _ (by go_simp)).trans (by go_simp)⟩
    clear hHeld hK K hcx hfx; rename_i hHeld
    clear hb14 hb0 H713 Hb13 C13
    (refine take_at (i := 21) (oi := _) (v := ?_) rfl rfl (by kernel_rfl) (by kernel_rfl) (by kernel_rfl) (fun _ _ _ h => h) (Or.inl ⟨by rfl, ?_⟩) (by assumption) ?_; rotate_left; (focus (intro w hSw; (try dsimp only at hSw); go_simp; (try with_reducible rfl))); (simp only [put_lit, List.set]))
    (refine take_at (i := 22) (oi := _) (v := ?_) rfl rfl (by kernel_rfl) (by kernel_rfl) (by kernel_rfl) (fun _ _ _ h => h) (Or.inl ⟨by rfl, ?_⟩) (by assumption) ?_; rotate_left; (focus (intro w hSw; (try dsimp only at hSw); go_simp; (try with_reducible rfl))); (simp only [put_lit, List.set]))
    refine wpAnyH_done (by kernel_rfl) ?_ _
    clear hHeld
    go_wp2
    go_ret
    exact ⟨rfl, Hb14.out⟩
end Go.Proofs.Ytgblfpkfapmlnaa
