/- The walk of unipoly.Stretch. -/
import Derived.Test.YtdihefmjfnlpcaaGreatLcm
import Derived.Test.YtdihefmjfnlpcaaGreatPow
namespace Go.Proofs.YtdihefmjfnlpcaaGreat
open Go.RowKit

/-- a row of which the first k numbers are replaced -/
def rowf (F : Nat → Int) (q : List Int) (k : Nat) : List Int := (List.range q.length).map fun j => if j < k then F j else q.getD j 0
section
variable (F : Nat → Int) (q : List Int)
theorem rowf_length (k : Nat) : (rowf F q k).length = q.length := by simp [rowf]
theorem rowf_getE (k : Nat) {t : Nat} (h : t < q.length) : (rowf F q k)[t]? = some (if t < k then F t else q.getD t 0) := by
  rw [rowf, List.getElem?_map, List.getElem?_range h]; rfl
theorem rowf_get (k : Nat) {t : Nat} (h : t < q.length) : (rowf F q k).getD t 0 = if t < k then F t else q.getD t 0 := by
  rw [List.getD_eq_getElem?_getD, rowf_getE F q k h]; rfl
theorem rowf_zero : rowf F q 0 = q := by
  refine List.ext_getElem? fun t => ?_
  rcases Nat.lt_or_ge t q.length with h | h
  · rw [rowf_getE F q 0 h, if_neg (by omega), List.getD_eq_getElem?_getD, List.getElem?_eq_getElem h]; rfl
  · rw [List.getElem?_eq_none (by rw [rowf_length]; exact h), List.getElem?_eq_none h]
theorem rowf_set {j : Nat} (hj : j < q.length) : (rowf F q j).set j (F j) = rowf F q (j + 1) := by
  refine List.ext_getElem? fun t => ?_
  rcases Nat.lt_or_ge t q.length with h | h
  · rw [rowf_getE F q (j + 1) h]
    rcases Nat.decEq t j with hne | heq
    · rw [List.getElem?_set_ne (by omega), rowf_getE F q j h]
      congr 1
      by_cases h1 : t < j
      · rw [if_pos h1, if_pos (by omega)]
      · rw [if_neg h1, if_neg (by omega)]
    · subst heq
      rw [List.getElem?_set_self (by rw [rowf_length]; exact h), if_pos (by omega)]
  · rw [List.getElem?_eq_none (by rw [List.length_set, rowf_length]; exact h), List.getElem?_eq_none (by rw [rowf_length]; exact h)]
end
/-- f(c x) -/
def pstr (c : Int) (q : List Int) : List Int := rowf (fun j => q.getD j 0 * c ^ j) q q.length
theorem pstr_get (c : Int) (q : List Int) (k : Nat) : (pstr c q).getD k 0 = q.getD k 0 * c ^ k := by
  unfold pstr
  rcases Nat.lt_or_ge k q.length with h | h
  · rw [rowf_get _ _ _ h, if_pos h]
  · rw [getD_out _ (by rw [rowf_length]; exact h), getD_out _ h]; simp

set_option maxRecDepth 100000 in
set_option maxHeartbeats 4000000 in
theorem stretch_any {I : IntPred} (hI : IK I) (A : Option Addr) (len cap : Nat) (p : List Int) (nb : Bool) (B : Option Addr) (lb cb : Nat) (c : Int) (w : World) (h : PolyP I w A len cap p) (hc : IntN w nb B lb cb c) (hs : SmP p) (fc : ∀ k, k ≤ plen p → Fit (c ^ k)) (hsc : SmI c) (hr : SmP (pstr c (ptrim p))) (hm : len ≤ 1000000) :
    Calls Tryz.prog 16 #[.slice A len cap, .agg #[.bool nb, .slice B lb cb]] w fun e w' => ∃ A' l' c', e = .returned (.slice A' l' c') ∧ PolyN w' A' l' c' (ptrim (pstr c (ptrim p))) ∧ Below w.heap.size w w' := by
  have hb0 : Below w.heap.size w (w.alloc (ibox nb B lb cb)) := (Below.refl _ _).alloc (Nat.le_refl _) _
  have h1 := h.below hI hb0
  have hB0 := Lib.hid (IBox.make hc)
  have hpl : plen p ≤ 1000000 := by have := plen_le p; have := h.length; omega
  have Hb0 := Lib.hid hb0
  obtain ⟨q, hq⟩ : ∃ q, q = ptrim p := ⟨_, rfl⟩
  have hsq : SmP q := by rw [hq]; exact hs.ptrim
  have hqt : q.length = plen p := by rw [hq]; exact ptrim_length p
  rw [← hq] at hr ⊢
  obtain ⟨n, hn⟩ : ∃ n, n = plen p := ⟨_, rfl⟩
  rw [← hn] at hpl hqt fc
  have Hq := Lib.hid hq
  have Hn := Lib.hid hn
  have Hqt := Lib.hid hqt
  have Fc := Lib.hid fc
  clear h hb0 hc hq hn hqt fc
  go_enter Tryz.func16, Tryz.ntmps16
  go_wp2_with fail
  refine (pnormal_any hI _ _ _ _ _ h1 hs (by omega)).mono ?_
  rintro e w1 ⟨g, rfl, hrow, hg, hb1⟩
  rw [← Hq.out] at hrow
  rw [← Hn.out]
  have hB1 := Lib.hid (hB0.out.move hb1)
  have hlB := hB0.out.lt
  simp only [World.size_alloc] at hg
  have Hb1 := Lib.hid (Hb0.out.trans (hb1.mono Hb0.out.size))
  have Hrow := Lib.hid hrow
  obtain ⟨gb, hgb⟩ : ∃ b, b = w.heap.size := ⟨_, rfl⟩
  rw [← hgb] at hB1 ⊢
  have ne1 : g ≠ gb := by omega
  have ne2 : gb ≠ g := by omega
  have Hg := Lib.hid (show w.heap.size ≤ g by omega)
  have Hgb := Lib.hid (show w.heap.size ≤ gb by omega)
  clear hrow hb1 h1 hB0 Hb0 hgb hlB hg
  go_wp2_with fail
  refine (iof_any 1 _ (by unfold I64; omega)).mono ?_
  rintro e w2 ⟨n6, A6, l6, c6, rfl, h6, hb2⟩
  have jb := below_new w2 (ibox n6 A6 l6 c6)
  have hbj := hb2.trans (jb.mono hb2.size)
  have x6 := IBox.make h6
  have hgl : g < w2.heap.size := Nat.lt_of_lt_of_le Hrow.out.lt hb2.size
  have hgbl : gb < w2.heap.size := Nat.lt_of_lt_of_le hB1.out.lt hb2.size
  have HR := Lib.hid (Hrow.out.below hbj)
  have HB := Lib.hid (hB1.out.move hbj)
  have Hb2 := Lib.hid (Hb1.out.trans (hbj.mono Hb1.out.size))
  have hg6 : w.heap.size ≤ w2.heap.size := Nat.le_trans Hb1.out.size hb2.size
  obtain ⟨g6, e6⟩ : ∃ g6, g6 = w2.heap.size := ⟨_, rfl⟩
  rw [← e6] at x6
  have H6 := Lib.hid x6
  have ne3 : g ≠ g6 := by omega
  have ne4 : gb ≠ g6 := by omega
  have ne5 : g6 ≠ g := by omega
  have ne6 : g6 ≠ gb := by omega
  have Hg6 := Lib.hid (show w.heap.size ≤ g6 by omega)
  clear h6 hb2 jb hbj x6 Hrow hB1 Hb1 hgl hgbl hg6
  go_wp2_with fail
  rw [← e6]
  clear e6
  go_loopw [13] (fun i wr => ∃ k n6 A6 l6 c6, k ≤ n ∧ i = .int .i64 (k : Int) ∧ PRow wr g (rowf (fun j => q.getD j 0 * c ^ j) q k) ∧ IBox wr gb nb B lb cb c ∧ IBox wr g6 n6 A6 l6 c6 (c ^ k) ∧ Below w.heap.size w wr) (fun i _ => n - (intOf i).toNat)
  case atStart => exact ⟨0, _, _, _, _, Nat.zero_le _, rfl, by rw [rowf_zero]; exact HR.out, HB.out, by rw [Int.pow_zero]; exact H6.out, Hb2.out⟩
  case round =>
    clear HR HB H6 Hb2
    obtain ⟨k, n6, A6, l6, c6, hkn, rfl, hrow, hB, h6, hb⟩ := hrel
    by_cases hk : k < n
    · have hkq : k < q.length := by rw [Hqt.out]; exact hk
      obtain ⟨n1, A1, l1, c1, e10, e11, z1⟩ := hrow.elems k (by rw [rowf_length]; exact hkq)
      rw [rowf_get _ _ _ hkq, if_neg (by omega)] at z1
      have f0 := hrow.frozen (k * 2)
      have f1 := hrow.frozen (k * 2 + 1)
      have b0 := hB.c0
      have b1 := hB.c1
      have d0 := h6.c0
      have d1 := h6.c1
      have hst := rowf_set (fun j => q.getD j 0 * c ^ j) q hkq
      have hsz : SmI (q.getD k 0) := hsq.getD k
      have fk := Fc.out k hkn
      have fk1 := Fc.out (k + 1) (by omega)
      have Hz1 := Lib.hid z1
      have Hr := Lib.hid hrow
      have HB := Lib.hid hB
      have H6 := Lib.hid h6
      have Hb := Lib.hid hb
      have Hk := Lib.hid (show k < (rowf (fun j => q.getD j 0 * c ^ j) q k).length by rw [rowf_length]; exact hkq)
      obtain ⟨zk, hzk⟩ : ∃ z, z = q.getD k 0 := ⟨_, rfl⟩
      rw [← hzk] at Hz1 hsz
      rw [← hzk] at hst
      obtain ⟨ck, hck⟩ : ∃ z, z = c ^ k := ⟨_, rfl⟩
      rw [← hck] at H6 hst fk
      have hck1 : c ^ (k + 1) = ck * c := by rw [hck, Int.pow_succ]
      have HCK := Lib.hid hck1
      have HST := Lib.hid hst
      have hlr := hrow.lt
      have hkN : (k : Int) < (n : Int) := by omega
      clear z1 hrow hB h6 hb hst hzk hck hck1 hkq
      go_wp2_with fail
      refine wp_region_last (S := fun w' => w'.cell? ⟨g, k * 2, none⟩ = some (.bool n1) ∧ w'.cell? ⟨g, k * 2 + 1, none⟩ = some (.slice A1 l1 c1) ∧ w'.cell? ⟨g6, 0, none⟩ = some (.bool n6) ∧ w'.cell? ⟨g6, 1, none⟩ = some (.slice A6 l6 c6)) (by kernel_rfl) (by kernel_rfl) (by (try dsimp only); go_keep) (fun hHeld => ?_)
      simp only [List.pop_toArray, List.dropLast]
      (refine take_at (i := 0) (oi := _) (v := ?_) rfl rfl (by kernel_rfl) (by kernel_rfl) (by kernel_rfl) (fun _ _ _ h => h) (Or.inl ⟨by rfl, ?_⟩) (by assumption) ?_; rotate_left; (focus (intro w hSw; (try dsimp only at hSw); go_simp; (try with_reducible rfl))); (simp only [put_lit, List.set]))
      (refine take_at (i := 1) (oi := _) (v := ?_) rfl rfl (by kernel_rfl) (by kernel_rfl) (by kernel_rfl) (fun _ _ _ h => h) (Or.inl ⟨by rfl, ?_⟩) (by assumption) ?_; rotate_left; (focus (intro w hSw; (try dsimp only at hSw); go_simp; (try with_reducible rfl))); (simp only [put_lit, List.set]))
      (refine take_at (i := 2) (oi := _) (v := ?_) rfl rfl (by kernel_rfl) (by kernel_rfl) (by kernel_rfl) (fun _ _ _ h => h) (Or.inl ⟨by rfl, ?_⟩) (by assumption) ?_; rotate_left; (focus (intro w hSw; (try dsimp only at hSw); go_simp; (try with_reducible rfl))); (simp only [put_lit, List.set]))
      (refine take_at (i := 3) (oi := _) (v := ?_) rfl rfl (by kernel_rfl) (by kernel_rfl) (by kernel_rfl) (fun _ _ _ h => h) (Or.inl ⟨by rfl, ?_⟩) (by assumption) ?_; rotate_left; (focus (intro w hSw; (try dsimp only at hSw); go_simp; (try with_reducible rfl))); (simp only [put_lit, List.set]))
      (refine take_at (i := 4) (oi := _) (v := ?_) rfl rfl (by kernel_rfl) (by kernel_rfl) (by kernel_rfl) (fun _ _ _ h => h) (Or.inl ⟨by rfl, ?_⟩) (by assumption) ?_; rotate_left; (focus (intro w hSw; (try dsimp only at hSw); go_simp; (try with_reducible rfl))); (simp only [put_lit, List.set]))
      (refine take_at (i := 5) (oi := _) (v := ?_) rfl rfl (by kernel_rfl) (by kernel_rfl) (by kernel_rfl) (fun _ _ _ h => h) (Or.inl ⟨by rfl, ?_⟩) (by assumption) ?_; rotate_left; (focus (intro w hSw; (try dsimp only at hSw); go_simp; (try with_reducible rfl))); (simp only [put_lit, List.set]))
      (refine take_at (i := 6) (oi := _) (v := ?_) rfl rfl (by kernel_rfl) (by kernel_rfl) (by kernel_rfl) (fun _ _ _ h => h) (Or.inl ⟨by rfl, ?_⟩) (by assumption) ?_; rotate_left; (focus (intro w hSw; (try dsimp only at hSw); go_simp; (try with_reducible rfl))); (simp only [put_lit, List.set]))
      refine wpAnyH_ready (rs := [7]) (by kernel_rfl) (by simp) ?_
      refine AllReadyH.cons rfl (fun K hK => ?_) AllReadyH.nil; go_simp
      refine (imul_any _ _ _ _ _ _ _ _ _ _ _ ?_ ?_ hsz fk.sm (fk.mulok _).symm).mono ?_
      · exact Hz1.out.at_.below (by (repeat (first | exact Below.refl _ _ | refine Below.drew ?_ | refine Below.alloc ?_ (by first | (simp; done) | (simp; omega) | omega) _ | refine Below.setCell ?_ (by first | (simp; done) | (simp; omega) | omega) _)))
      · exact H6.out.hz.at_.below (by (repeat (first | exact Below.refl _ _ | refine Below.drew ?_ | refine Below.alloc ?_ (by first | (simp; done) | (simp; omega) | omega) _ | refine Below.setCell ?_ (by first | (simp; done) | (simp; omega) | omega) _)))
      rintro e w7 ⟨n8, A8, l8, c8, rfl, h8, hb8⟩
      obtain ⟨hcx, hfx⟩ := bcellS hb8
      replace HB := Lib.hid (HB.out.move (Below.trans (by (repeat (first | exact Below.refl _ _ | refine Below.drew ?_ | refine Below.alloc ?_ (by first | (simp; done) | (simp; omega) | omega) _ | refine Below.setCell ?_ (by first | (simp; done) | (simp; omega) | omega) _))) (hb8.mono (by simp <;> omega))))
      replace H6 := Lib.hid (H6.out.move (Below.trans (by (repeat (first | exact Below.refl _ _ | refine Below.drew ?_ | refine Below.alloc ?_ (by first | (simp; done) | (simp; omega) | omega) _ | refine Below.setCell ?_ (by first | (simp; done) | (simp; omega) | omega) _))) (hb8.mono (by simp <;> omega))))
      replace Hb := Lib.hid (Hb.out.trans ((Below.trans (by (repeat (first | exact Below.refl _ _ | refine Below.drew ?_ | refine Below.alloc ?_ (by first | (simp; done) | (simp; omega) | omega) _ | refine Below.setCell ?_ (by first | (simp; done) | (simp; omega) | omega) _))) (hb8.mono (by simp <;> omega))).mono Hb.out.size))
      have hrw := Hr.out.below (Below.trans (by (repeat (first | exact Below.refl _ _ | refine Below.drew ?_ | refine Below.alloc ?_ (by first | (simp; done) | (simp; omega) | omega) _ | refine Below.setCell ?_ (by first | (simp; done) | (simp; omega) | omega) _))) (hb8.mono (by simp <;> omega)))
      refine hK.out _ _ ?_ (fun _ => ?_)
      · ((try dsimp only); repeat' apply And.intro) <;> (rw [hcx _ (by go_simp)]; go_simp)
      clear hHeld hK K hcx hfx; rename_i hHeld
      (refine take_at (i := 8) (oi := _) (v := ?_) rfl rfl (by kernel_rfl) (by kernel_rfl) (by kernel_rfl) (fun _ _ _ h => h) (Or.inl ⟨by rfl, ?_⟩) (by assumption) ?_; rotate_left; (focus (intro w hSw; (try dsimp only at hSw); go_simp; (try with_reducible rfl))); (simp only [put_lit, List.set]))
      refine wpAnyH_done (by kernel_rfl) (lastQ_list rfl ?_) _
      have hr2 := hrw.set_ (i := k) Hk.out h8
      rw [HST.out] at hr2
      have Hr2 := Lib.hid hr2
      have HB2 := Lib.hid (HB.out.row hrw Hk.out ne2 (.bool n8) (.slice A8 l8 c8))
      have H62 := Lib.hid (H6.out.row hrw Hk.out ne5 (.bool n8) (.slice A8 l8 c8))
      have Hb2 := Lib.hid ((Hb.out.setCell (p := ⟨g, k * 2, none⟩) Hg.out (.bool n8)).setCell (p := ⟨g, k * 2 + 1, none⟩) Hg.out (.slice A8 l8 c8))
      obtain ⟨n5, A5, l5, c5, p0, p1, _⟩ := hrw.elems k Hk.out
      have p2 := hrw.frozen (k * 2)
      have p3 := hrw.frozen (k * 2 + 1)
      obtain ⟨wq, hwq⟩ : ∃ wq, wq = (w7.setCell ⟨g, k * 2, none⟩ (.bool n8)).setCell ⟨g, k * 2 + 1, none⟩ (.slice A8 l8 c8) := ⟨_, rfl⟩
      rw [← hwq] at Hr2 HB2 H62 Hb2
      have x0 := H62.out.c0
      have x1 := H62.out.c1
      have y0 := HB2.out.c0
      have y1 := HB2.out.c1
      rw [hwq] at x0 x1 y0 y1
      clear hHeld hr2 h8 hb8 hrw e10 e11 b0 b1 d0 d1 HB H6 Hb Hr Hz1
      go_wp2_with fail
      rw [← hwq]
      clear hwq x0 x1 y0 y1 p0 p1 p2 p3
      refine (imul_any _ _ _ _ _ _ _ _ _ _ _ H62.out.hz.at_ HB2.out.hz.at_ fk.sm hsc (fk.mulok _)).mono ?_
      rintro e w9 ⟨n9, A9, l9, c9, rfl, h9, hb9⟩
      rw [← HCK.out] at h9
      have i6 := H62.out.move hb9
      have hbx := (HB2.out.move hb9).far i6 ne4 (.bool n9) (.slice A9 l9 c9)
      have hrx := (Hr2.out.below hb9).put (n' := n9) (A' := A9) (l' := l9) (c' := c9) i6 ne3
      have i6' := i6.put h9
      have hbf := ((Hb2.out.trans (hb9.mono Hb2.out.size)).setCell (p := ⟨g6, 0, none⟩) Hg6.out (.bool n9)).setCell (p := ⟨g6, 1, none⟩) Hg6.out (.slice A9 l9 c9)
      have K0 := Lib.hid hrx
      have K1 := Lib.hid hbx
      have K2 := Lib.hid i6'
      have K3 := Lib.hid hbf
      have x0 := i6.c0
      have x1 := i6.c1
      have x2 := i6.f0
      have x3 := i6.f1
      clear h9 hb9 i6 hbx hrx i6' hbf HB2 H62 Hr2 Hb2
      go_wp2_with fail
      go_roundw
      case rel => exact ⟨k + 1, _, _, _, _, by omega, by go_num, K0.out, K1.out, K2.out, K3.out⟩
      case measure => simp [intOf]; omega
    · have hkn2 : n = k := by omega
      subst hkn2
      have hp := hrow.poly (cap := n) (by rw [rowf_length, Hqt.out]; exact Nat.le_refl _)
      rw [rowf_length, Hqt.out] at hp
      have hfin : rowf (fun j => q.getD j 0 * c ^ j) q n = pstr c q := by unfold pstr; rw [Hqt.out]
      rw [hfin] at hp
      have Hp := Lib.hid hp
      have Hb := Lib.hid hb
      have hkN : ¬ ((n : Int) < (n : Int)) := by omega
      clear hrow hB h6 hb hp hfin
      go_wp2_with fail
      refine (ptrim_any ikN _ _ _ _ _ Hp.out hr (by omega)).mono ?_
      rintro e w9 ⟨l9, rfl, h9, -, hb9⟩
      have H9 := Lib.hid h9
      have Hb9 := Lib.hid (Hb.out.trans (hb9.mono Hb.out.size))
      clear h9 hb9 Hp Hb
      go_wp2
      go_ret
      exact ⟨_, _, _, rfl, H9.out, Hb9.out⟩
end Go.Proofs.YtdihefmjfnlpcaaGreat
