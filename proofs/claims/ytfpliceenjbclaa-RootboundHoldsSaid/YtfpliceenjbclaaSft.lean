/- The walk of unipoly.Shift. -/
import Derived.Test.YtfpliceenjbclaaRbF
import Derived.Test.YtfpliceenjbclaaIntE
import Derived.Test.YtfpliceenjbclaaTay
import Derived.Test.YtfpliceenjbclaaPop
import Derived.IntWalk
namespace Go.Proofs.Ytfpliceenjbclaa
open Go.RowKit

/-- an integer of at most 40 digits -/
def Fit (z : Int) : Prop := z.natAbs < BB ^ 40
theorem sm_pow {n k : Nat} (h : n < BB ^ k) (hk : k ≤ 1000) : Sm n := Nat.le_trans (dlen_le_of_lt h) (by omega)
theorem Fit.sm {z : Int} (h : Fit z) : SmI z := sm_pow h (by omega)
theorem Fit.mulok {a : Int} (h : Fit a) (b : Int) : MulOK a.natAbs b.natAbs := .inl (by have := dlen_le_of_lt h; omega)
theorem Fit.mul {a b : Int} (ha : Fit a) (hb : Fit b) : (a * b).natAbs < BB ^ 80 := by
  rw [Int.natAbs_mul, show 80 = 40 + 40 from rfl, Nat.pow_add]
  exact Nat.mul_lt_mul'' ha hb
theorem Fit.add {a b c : Int} (ha : Fit a) (hb : Fit b) (hc : Fit c) : Sm (a.natAbs + (b * c).natAbs) := by
  have h1 := hb.mul hc
  have h2 : BB ^ 40 ≤ BB ^ 80 := Nat.pow_le_pow_right BB_pos (by omega)
  refine sm_pow (k := 81) ?_ (by omega)
  rw [Nat.pow_succ]
  have h3 : BB ^ 80 * 2 ≤ BB ^ 80 * BB := Nat.mul_le_mul_left _ (by rw [BB_eq]; omega)
  unfold Fit at ha
  omega
theorem Fit.sm2 {a b : Int} (ha : Fit a) (hb : Fit b) : SmI (a * b) := sm_pow (ha.mul hb) (by omega)

theorem IBox.row {W : World} {g g' : Nat} {n : Bool} {A : Option Addr} {l c : Nat} {z : Int} {zs : List Int} (h : IBox W g n A l c z) (hr : PRow W g' zs) {i : Nat} (hi : i < zs.length) (hg : g ≠ g') (u v : Value) :
    IBox ((W.setCell ⟨g', i * 2, none⟩ u).setCell ⟨g', i * 2 + 1, none⟩ v) g n A l c z := by
  obtain ⟨n0, A0, l0, c0, e0, e1, _⟩ := hr.elems i hi
  have k0 := h.c0
  have k1 := h.c1
  have f0 := h.f0
  have f1 := h.f1
  have e1' : (W.setCell ⟨g', i * 2, none⟩ u).cell? ⟨g', i * 2 + 1, none⟩ = some (.slice A0 l0 c0) := by
    rw [World.cell?_setCell_other W _ _ _ (by simp)]; exact e1
  exact ⟨by go_simp, by go_simp, by go_simp, by go_simp, by simpa [World.setCell] using h.lt, (h.hz.store _ e0 (noDigit_bool _)).store _ e1' (noDigit_slice _ _ _)⟩

/-- what the shift needs: every number that comes up fits -/
def ShOK (c : Int) (q : List Int) : Prop := Fit c ∧ ∀ k j i, k ≤ q.length → Fit ((pass c j (st c q k)).getD i 0)

set_option maxRecDepth 100000 in
set_option maxHeartbeats 4000000 in
theorem pshift_any {I : IntPred} (hI : IK I) (A : Option Addr) (len cap : Nat) (p : List Int) (nb : Bool) (B : Option Addr) (lb cb : Nat) (c : Int) (w : World) (h : PolyP I w A len cap p) (hc : IntN w nb B lb cb c) (hs : SmP p) (hm : len ≤ 1099511627776) (hok : ShOK c (ptrim p)) :
    Calls Try.prog 89 #[.slice A len cap, .agg #[.bool nb, .slice B lb cb]] w fun e w' => ∃ g, e = .returned (.slice (some ⟨g, 0, none⟩) (plen p) (plen p)) ∧ PRow w' g (hsh c (ptrim p)) ∧ w.heap.size ≤ g ∧ Below w.heap.size w w' := by
  have hb0 : Below w.heap.size w (w.alloc (ibox nb B lb cb)) := (Below.refl _ _).alloc (Nat.le_refl _) _
  have h0 := h.below hI hb0
  have hB0 := Lib.hid (IBox.make hc)
  have hpl : plen p ≤ 1099511627776 := by have := plen_le p; have := h.length; omega
  have Hb0 := Lib.hid hb0
  clear h hb0 hc
  go_enter Try.func89, Try.ntmps89
  go_wp2_with fail
  refine (pnormal_any hI _ _ _ _ _ h0 hs hm).mono ?_
  rintro e w1 ⟨g, rfl, hrow, hg, hb1⟩
  have hB1 := Lib.hid (hB0.out.move hb1)
  have hB1' := Lib.hid (Hb0.out.trans (hb1.mono Hb0.out.size))
  simp only [World.size_alloc] at hg
  have hpt := Lib.hid (ptrim_length p)
  clear h0 hB0 Hb0 hb1
  obtain ⟨q, hq⟩ : ∃ q, q = ptrim p := ⟨_, rfl⟩
  rw [← hq] at hrow hok hpt
  have Hq := Lib.hid hq
  clear hq
  have Hok := Lib.hid hok
  have Hrow := Lib.hid hrow
  clear hok hrow hs
  obtain ⟨n, hn⟩ : ∃ n, n = plen p := ⟨_, rfl⟩
  rw [← hn] at hpl hpt ⊢
  have Hn := Lib.hid hn
  clear hn hm
  go_wp2
  go_loopw [6] (fun l wr => ∃ k : Nat, k ≤ n ∧ (k = 0 ∨ k < n) ∧ l = .int .i64 (k : Int) ∧ PRow wr g (st c q k) ∧ IBox wr w.heap.size nb B lb cb c ∧ Below w.heap.size w wr) (fun l _ => n - (intOf l).toNat)
  case atStart => exact ⟨0, Nat.zero_le _, .inl rfl, rfl, Hrow.out, hB1.out, hB1'.out⟩
  case round =>
    clear Hrow hB1 hB1'
    obtain ⟨k, hkn, hk0, rfl, hrow, hbx, hbw⟩ := hrel
    have Hrow := Lib.hid hrow
    have Hbx := Lib.hid hbx
    have Hbw := Lib.hid hbw
    clear hrow hbx hbw
    by_cases hlt : (k : Int) < (n : Int) - 1
    · go_wp2
      go_loopw [7] (fun i wx => ∃ j : Nat, k ≤ j ∧ j < n ∧ i = .int .i64 ((j : Int) - 1) ∧ PRow wx g (pass c j (st c q k)) ∧ IBox wx w.heap.size nb B lb cb c ∧ Below w.heap.size w wx) (fun i _ => (intOf i + 1).toNat)
      case atStart =>
        refine ⟨n - 1, by omega, by omega, ?_, ?_, Hbx.out, Hbw.out⟩
        · congr 1; omega
        · rw [pass_last]
          · exact Hrow.out
          · rw [st_length, hpt.out]; omega
      case round =>
        clear Hrow Hbx Hbw
        obtain ⟨j, hkj, hjn, rfl, hrow, hbx, hbw⟩ := hrel
        by_cases hj : k < j
        · obtain ⟨i, rfl⟩ : ∃ i, j = i + 1 := ⟨j - 1, by omega⟩
          rw [show ((i + 1 : Nat) : Int) - 1 = (i : Int) by omega]
          have hlen : (pass c (i + 1) (st c q k)).length = n := by rw [pass_length, st_length, hpt.out]
          obtain ⟨n1, A1, l1, c1, e10, e11, z1⟩ := hrow.elems i (by omega)
          obtain ⟨n2, A2, l2, c2, e20, e21, z2⟩ := hrow.elems (i + 1) (by omega)
          have f0 := hrow.frozen (i * 2)
          have f1 := hrow.frozen (i * 2 + 1)
          have b0 := hbx.c0
          have b1 := hbx.c1
          have fit1 := Hok.out.2 k (i + 1) i (by rw [hpt.out]; omega)
          have fit2 := Hok.out.2 k (i + 1) (i + 1) (by rw [hpt.out]; omega)
          have fitc := Hok.out.1
          have hstep := Lib.hid (pass_step c (st c q k) (j := i) (by rw [st_length, hpt.out]; omega))
          have Hlen := Lib.hid hlen
          have Hrow := Lib.hid hrow
          have Hbx := Lib.hid hbx
          have Hbw := Lib.hid hbw
          have Hz1 := Lib.hid z1
          have Hz2 := Lib.hid z2
          clear hlen hrow hbx hbw z1 z2
          have w1 : IntKind.i64.wrap ((i : Int) + 1) = (i : Int) + 1 := IntWalk.i64_in _ (by omega)
          have w2 : 0 ≤ (i : Int) + 1 := by omega
          have hin : i < n := by omega
          have hjn2 : (i : Int) + 1 < (n : Int) := by omega
          have w3 : ((i : Int) + 1).toNat = i + 1 := by omega
          go_wp2_with fail
          refine wp_region_last (S := fun w' => w'.cell? ⟨g, i * 2, none⟩ = some (.bool n1) ∧ w'.cell? ⟨g, i * 2 + 1, none⟩ = some (.slice A1 l1 c1) ∧ w'.cell? ⟨g, (i + 1) * 2, none⟩ = some (.bool n2) ∧ w'.cell? ⟨g, (i + 1) * 2 + 1, none⟩ = some (.slice A2 l2 c2) ∧ w'.cell? ⟨w.heap.size, 0, none⟩ = some (.bool nb) ∧ w'.cell? ⟨w.heap.size, 1, none⟩ = some (.slice B lb cb)) (by kernel_rfl) (by kernel_rfl) (by (try dsimp only); go_keep) (fun hHeld => ?_)
          simp only [List.pop_toArray, List.dropLast]
          (refine take_at (i := 0) (oi := _) (v := ?_) rfl rfl (by kernel_rfl) (by kernel_rfl) (by kernel_rfl) (fun _ _ _ h => h) (Or.inl ⟨by rfl, ?_⟩) (by assumption) ?_; rotate_left; (focus (intro w hSw; (try dsimp only at hSw); go_simp; (try with_reducible rfl))); (simp only [put_lit, List.set]))
          (refine take_at (i := 1) (oi := _) (v := ?_) rfl rfl (by kernel_rfl) (by kernel_rfl) (by kernel_rfl) (fun _ _ _ h => h) (Or.inl ⟨by rfl, ?_⟩) (by assumption) ?_; rotate_left; (focus (intro w hSw; (try dsimp only at hSw); go_simp; (try with_reducible rfl))); (simp only [put_lit, List.set]))
          (refine take_at (i := 2) (oi := _) (v := ?_) rfl rfl (by kernel_rfl) (by kernel_rfl) (by kernel_rfl) (fun _ _ _ h => h) (Or.inl ⟨by rfl, ?_⟩) (by assumption) ?_; rotate_left; (focus (intro w hSw; (try dsimp only at hSw); go_simp; (try with_reducible rfl))); (simp only [put_lit, List.set]))
          (refine take_at (i := 3) (oi := _) (v := ?_) rfl rfl (by kernel_rfl) (by kernel_rfl) (by kernel_rfl) (fun _ _ _ h => h) (Or.inl ⟨by rfl, ?_⟩) (by assumption) ?_; rotate_left; (focus (intro w hSw; (try dsimp only at hSw); go_simp; (try with_reducible rfl))); (simp only [put_lit, List.set]))
          (refine take_at (i := 4) (oi := _) (v := ?_) rfl rfl (by kernel_rfl) (by kernel_rfl) (by kernel_rfl) (fun _ _ _ h => h) (Or.inl ⟨by rfl, ?_⟩) (by assumption) ?_; rotate_left; (focus (intro w hSw; (try dsimp only at hSw); go_simp; (try with_reducible rfl))); (simp only [put_lit, List.set]))
          (refine take_at (i := 5) (oi := _) (v := ?_) rfl rfl (by kernel_rfl) (by kernel_rfl) (by kernel_rfl) (fun _ _ _ h => h) (Or.inl ⟨by rfl, ?_⟩) (by assumption) ?_; rotate_left; (focus (intro w hSw; (try dsimp only at hSw); go_simp; (try with_reducible rfl))); (simp only [put_lit, List.set]))
          (refine take_at (i := 6) (oi := _) (v := ?_) rfl rfl (by kernel_rfl) (by kernel_rfl) (by kernel_rfl) (fun _ _ _ h => h) (Or.inl ⟨by rfl, ?_⟩) (by assumption) ?_; rotate_left; (focus (intro w hSw; (try dsimp only at hSw); go_simp; (try with_reducible rfl))); (simp only [put_lit, List.set]))
          (refine take_at (i := 7) (oi := _) (v := ?_) rfl rfl (by kernel_rfl) (by kernel_rfl) (by kernel_rfl) (fun _ _ _ h => h) (Or.inl ⟨by rfl, ?_⟩) (by assumption) ?_; rotate_left; (focus (intro w hSw; (try dsimp only at hSw); go_simp; (try with_reducible rfl))); (simp only [put_lit, List.set]))
          (refine take_at (i := 8) (oi := _) (v := ?_) rfl rfl (by kernel_rfl) (by kernel_rfl) (by kernel_rfl) (fun _ _ _ h => h) (Or.inl ⟨by rfl, ?_⟩) (by assumption) ?_; rotate_left; (focus (intro w hSw; (try dsimp only at hSw); go_simp; (try with_reducible rfl))); (simp only [put_lit, List.set]))
          (refine take_at (i := 9) (oi := _) (v := ?_) rfl rfl (by kernel_rfl) (by kernel_rfl) (by kernel_rfl) (fun _ _ _ h => h) (Or.inl ⟨by rfl, ?_⟩) (by assumption) ?_; rotate_left; (focus (intro w hSw; (try dsimp only at hSw); go_simp; (try with_reducible rfl))); (simp only [put_lit, List.set]))
          (refine take_at (i := 10) (oi := _) (v := ?_) rfl rfl (by kernel_rfl) (by kernel_rfl) (by kernel_rfl) (fun _ _ _ h => h) (Or.inl ⟨by rfl, ?_⟩) (by assumption) ?_; rotate_left; (focus (intro w hSw; (try dsimp only at hSw); go_simp; (try with_reducible rfl))); (simp only [put_lit, List.set]))
          (refine take_at (i := 11) (oi := _) (v := ?_) rfl rfl (by kernel_rfl) (by kernel_rfl) (by kernel_rfl) (fun _ _ _ h => h) (Or.inl ⟨by rfl, ?_⟩) (by assumption) ?_; rotate_left; (focus (intro w hSw; (try dsimp only at hSw); go_simp; (try with_reducible rfl))); (simp only [put_lit, List.set]))
          refine wpAnyH_ready (rs := [12]) (by kernel_rfl) (by simp) ?_
          refine AllReadyH.cons rfl (fun K hK => ?_) AllReadyH.nil; go_simp
          refine (imul_any _ _ _ _ _ _ _ _ _ _ _ ?_ ?_ fitc.sm fit2.sm (fitc.mulok _)).mono ?_
          · exact Hbx.out.hz.at_.below (by (repeat (first | exact Below.refl _ _ | refine Below.drew ?_ | refine Below.alloc ?_ (by first | (simp; done) | (simp; omega) | omega) _ | refine Below.setCell ?_ (by first | (simp; done) | (simp; omega) | omega) _)))
          · exact Hz2.out.at_.below (by (repeat (first | exact Below.refl _ _ | refine Below.drew ?_ | refine Below.alloc ?_ (by first | (simp; done) | (simp; omega) | omega) _ | refine Below.setCell ?_ (by first | (simp; done) | (simp; omega) | omega) _)))
          rintro e w7 ⟨n8, A8, l8, c8, rfl, h8, hb8⟩
          obtain ⟨hcx, hfx⟩ := bcellS hb8
          have HX8 := Lib.hid (Hbx.out.move (Below.trans (by (repeat (first | exact Below.refl _ _ | refine Below.drew ?_ | refine Below.alloc ?_ (by first | (simp; done) | (simp; omega) | omega) _ | refine Below.setCell ?_ (by first | (simp; done) | (simp; omega) | omega) _))) (hb8.mono (by simp <;> omega))))
          have HR8 := Lib.hid (Hrow.out.below (Below.trans (by (repeat (first | exact Below.refl _ _ | refine Below.drew ?_ | refine Below.alloc ?_ (by first | (simp; done) | (simp; omega) | omega) _ | refine Below.setCell ?_ (by first | (simp; done) | (simp; omega) | omega) _))) (hb8.mono (by simp <;> omega))))
          have Hb8 := Lib.hid (Hbw.out.trans ((Below.trans (by (repeat (first | exact Below.refl _ _ | refine Below.drew ?_ | refine Below.alloc ?_ (by first | (simp; done) | (simp; omega) | omega) _ | refine Below.setCell ?_ (by first | (simp; done) | (simp; omega) | omega) _))) (hb8.mono (by simp <;> omega))).mono Hbw.out.size))
          have Hz8 := Lib.hid (Hz1.out.below (Below.trans (by (repeat (first | exact Below.refl _ _ | refine Below.drew ?_ | refine Below.alloc ?_ (by first | (simp; done) | (simp; omega) | omega) _ | refine Below.setCell ?_ (by first | (simp; done) | (simp; omega) | omega) _))) (hb8.mono (by simp <;> omega))))
          refine hK.out _ _ ?_ (fun _ => ?_)
          · ((try dsimp only); repeat' apply And.intro) <;> (rw [hcx _ (by go_simp)]; go_simp)
          clear hHeld hK K hcx hfx; rename_i hHeld
          refine wpAnyH_ready (rs := [13]) (by kernel_rfl) (by simp) ?_
          refine AllReadyH.cons rfl (fun K hK => ?_) AllReadyH.nil; go_simp
          refine (iadd_any _ _ _ _ _ _ _ _ _ _ _ ?_ ?_ fit1.sm (fitc.sm2 fit2) (fit1.add fitc fit2)).mono ?_
          · exact Hz8.out.at_.below (by (repeat (first | exact Below.refl _ _ | refine Below.drew ?_ | refine Below.alloc ?_ (by first | (simp; done) | (simp; omega) | omega) _ | refine Below.setCell ?_ (by first | (simp; done) | (simp; omega) | omega) _)))
          · exact h8.at_.below (by (repeat (first | exact Below.refl _ _ | refine Below.drew ?_ | refine Below.alloc ?_ (by first | (simp; done) | (simp; omega) | omega) _ | refine Below.setCell ?_ (by first | (simp; done) | (simp; omega) | omega) _)))
          rintro e w9 ⟨n9, A9, l9, c9, rfl, h9, hb9⟩
          obtain ⟨hcx, hfx⟩ := bcellS hb9
          have HX9 := Lib.hid (HX8.out.move (Below.trans (by (repeat (first | exact Below.refl _ _ | refine Below.drew ?_ | refine Below.alloc ?_ (by first | (simp; done) | (simp; omega) | omega) _ | refine Below.setCell ?_ (by first | (simp; done) | (simp; omega) | omega) _))) (hb9.mono (by simp <;> omega))))
          have HR9 := Lib.hid (HR8.out.below (Below.trans (by (repeat (first | exact Below.refl _ _ | refine Below.drew ?_ | refine Below.alloc ?_ (by first | (simp; done) | (simp; omega) | omega) _ | refine Below.setCell ?_ (by first | (simp; done) | (simp; omega) | omega) _))) (hb9.mono (by simp <;> omega))))
          have Hb9 := Lib.hid (Hb8.out.trans ((Below.trans (by (repeat (first | exact Below.refl _ _ | refine Below.drew ?_ | refine Below.alloc ?_ (by first | (simp; done) | (simp; omega) | omega) _ | refine Below.setCell ?_ (by first | (simp; done) | (simp; omega) | omega) _))) (hb9.mono (by simp <;> omega))).mono Hb8.out.size))
          have H9 := Lib.hid h9
          refine hK.out _ _ ?_ (fun _ => ?_)
          · ((try dsimp only); repeat' apply And.intro) <;> (rw [hcx _ (by go_simp)]; go_simp)
          clear hHeld hK K hcx hfx; rename_i hHeld
          (refine take_at (i := 14) (oi := _) (v := ?_) rfl rfl (by kernel_rfl) (by kernel_rfl) (by kernel_rfl) (fun _ _ _ h => h) (Or.inl ⟨by rfl, ?_⟩) (by assumption) ?_; rotate_left; (focus (intro w hSw; (try dsimp only at hSw); go_simp; (try with_reducible rfl))); (simp only [put_lit, List.set]))
          refine wpAnyH_done (by kernel_rfl) (lastQ_list rfl ?_) _
          have p0 := hHeld.1
          have p1 := hHeld.2.1
          have p2 := HR9.out.frozen (i * 2)
          have p3 := HR9.out.frozen (i * 2 + 1)
          clear hHeld
          go_wp2
          go_roundw
          case rel =>
            refine ⟨i, by omega, by omega, rfl, ?_, HX9.out.row HR9.out (i := i) (by have := Hlen.out; omega) (by omega) _ _, (Hb9.out.setCell (p := ⟨g, i * 2, none⟩) (by first | (simp; done) | (simp; omega) | omega) _).setCell (p := ⟨g, i * 2 + 1, none⟩) (by first | (simp; done) | (simp; omega) | omega) _⟩
            rw [← hstep.out]
            exact HR9.out.set_ (by have := Hlen.out; omega) H9.out
          case measure => simp [intOf]
        · have hjk : j = k := by omega
          subst hjk
          have Hrow := Lib.hid hrow
          have Hbx := Lib.hid hbx
          have Hbw := Lib.hid hbw
          clear hrow hbx hbw
          have hge : ¬ ((j : Int) ≤ (j : Int) - 1) := by omega
          go_wp2
          go_roundw
          case rel => exact ⟨j + 1, by omega, by omega, by go_num, Hrow.out, Hbx.out, Hbw.out⟩
          case measure => simp [intOf]; omega
    · have hfin : st c q k = hsh c q := by
        by_cases hn0 : n = 0
        · subst hn0
          have hq : q = [] := List.eq_nil_of_length_eq_zero hpt.out
          have hk : k = 0 := by omega
          subst hq
          subst hk
          rfl
        · have hk : k = n - 1 := by omega
          rw [hk]
          exact st_hsh c q (n - 1) (by rw [hpt.out]; omega)
      rw [hfin] at Hrow
      clear hfin
      go_wp2
      go_ret
      exact ⟨g, by rw [← Hn.out]; rfl, by rw [← Hq.out]; exact Hrow.out, by omega, Hbw.out⟩
end Go.Proofs.Ytfpliceenjbclaa
