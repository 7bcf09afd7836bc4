/- The walks of cylinderref03.Quo and Abs. -/
import Derived.Test.YtgblfpkfapmlnaaZbi
namespace Go.Proofs.Ytgblfpkfapmlnaa
open Go.RowKit

theorem tdiv_sgn (a b : Int) : sgn (decide (sg a * sg b < 0)) (a.natAbs / b.natAbs) = a.tdiv b := by
  rcases sg_cases a with ⟨h1, e1⟩ | ⟨h1, e1⟩ | ⟨h1, e1⟩ <;> rcases sg_cases b with ⟨h2, e2⟩ | ⟨h2, e2⟩ | ⟨h2, e2⟩ <;> rw [e1, e2]
  · obtain ⟨x, rfl⟩ : ∃ x : Nat, a = -(x : Int) := ⟨a.natAbs, by omega⟩
    obtain ⟨y, rfl⟩ : ∃ y : Nat, b = -(y : Int) := ⟨b.natAbs, by omega⟩
    rw [Int.neg_tdiv, Int.tdiv_neg, Int.neg_neg, Int.natAbs_neg, Int.natAbs_neg]; rfl
  · subst h2; simp [sgn]
  · obtain ⟨x, rfl⟩ : ∃ x : Nat, a = -(x : Int) := ⟨a.natAbs, by omega⟩
    obtain ⟨y, rfl⟩ : ∃ y : Nat, b = (y : Int) := ⟨b.natAbs, by omega⟩
    rw [Int.neg_tdiv, Int.natAbs_neg]; rfl
  · subst h1; simp [sgn]
  · subst h1; simp [sgn]
  · subst h1; simp [sgn]
  · obtain ⟨x, rfl⟩ : ∃ x : Nat, a = (x : Int) := ⟨a.natAbs, by omega⟩
    obtain ⟨y, rfl⟩ : ∃ y : Nat, b = -(y : Int) := ⟨b.natAbs, by omega⟩
    rw [Int.tdiv_neg, Int.natAbs_neg]; rfl
  · subst h2; simp [sgn]
  · obtain ⟨x, rfl⟩ : ∃ x : Nat, a = (x : Int) := ⟨a.natAbs, by omega⟩
    obtain ⟨y, rfl⟩ : ∃ y : Nat, b = (y : Int) := ⟨b.natAbs, by omega⟩
    rfl
theorem tmod_sgn (a b : Int) : sgn (decide (sg a < 0)) (a.natAbs % b.natAbs) = a.tmod b := by
  rcases sg_cases a with ⟨h1, e1⟩ | ⟨h1, e1⟩ | ⟨h1, e1⟩ <;> rw [e1]
  · obtain ⟨x, rfl⟩ : ∃ x : Nat, a = -(x : Int) := ⟨a.natAbs, by omega⟩
    rw [Int.neg_tmod, Int.natAbs_neg]
    show -((x % b.natAbs : Nat) : Int) = _
    rcases Int.natAbs_eq b with h | h
    · conv => rhs; rw [h]
      rfl
    · conv => rhs; rw [h, Int.tmod_neg]
      rfl
  · subst h1; simp [sgn]
  · obtain ⟨x, rfl⟩ : ∃ x : Nat, a = (x : Int) := ⟨a.natAbs, by omega⟩
    show ((x % b.natAbs : Nat) : Int) = _
    rcases Int.natAbs_eq b with h | h
    · conv => rhs; rw [h]
      rfl
    · conv => rhs; rw [h, Int.tmod_neg]
      rfl

/-- both results -/
def QRet (w : World) (q r : Int) (e : Ending) (w' : World) : Prop := ∃ s A l c s' A' l' c', e = .returned (.tuple #[.agg #[.int .i64 s, .slice A l c], .agg #[.int .i64 s', .slice A' l' c']]) ∧ ZAt w' s A l c q ∧ ZAt w' s' A' l' c' r ∧ Below w.heap.size w w'


set_option maxRecDepth 100000 in
set_option maxHeartbeats 4000000 in
theorem zquo_any (p : Int) (A : Option Addr) (la ca : Nat) (a : Int) (q : Int) (B : Option Addr) (lb cb : Nat) (b : Int) (w : World) (ha : ZAt w p A la ca a) (hb : ZAt w q B lb cb b) (hma : la ≤ 800000) (hmb : lb ≤ 800000) (hb0 : b ≠ 0) :
    Calls Try.prog 70 #[.agg #[.int .i64 p, .slice A la ca], .agg #[.int .i64 q, .slice B lb cb]] w (QRet w (a.tdiv b) (a.tmod b)) := by
  have hW : Below w.heap.size w ((((w.alloc (zbox p A la ca)).alloc (zbox q B lb cb)).alloc (zbox 0 none 0 0)).alloc (zbox 0 none 0 0)) := below_four w _ _ _ _ (Nat.le_refl _)
  have hA0 := ha.bits.below hW
  have hB0 := hb.bits.below hW
  have hsg := sg_mul_bd a b
  have hms := tdiv_sgn a b
  have hmr := tmod_sgn a b
  have hla := ha.len
  have hlb := hb.len
  rw [← ha.sign, ← hb.sign] at hsg hms
  rw [← ha.sign] at hmr
  obtain ⟨m, hm⟩ : ∃ m, m = p * q := ⟨_, rfl⟩
  rw [← hm] at hsg hms
  have i1 : p * q = m := hm.symm
  have i2 : IntKind.i64.wrap m = m := IntWalk.i64_in _ (by omega)
  have Hms := Lib.hid hms
  have Hmr := Lib.hid hmr
  have Hq := Lib.hid (show bln (a.natAbs / b.natAbs) ≤ 1000000 by have := bln_mono (Nat.div_le_self a.natAbs b.natAbs); omega)
  have Hr := Lib.hid (show bln (a.natAbs % b.natAbs) ≤ 1000000 by have := bln_mono (Nat.mod_le a.natAbs b.natAbs); omega)
  have HW := Lib.hid hW
  have HA := Lib.hid hA0
  have HB := Lib.hid hB0
  have hbn : 0 < b.natAbs := by omega
  clear ha hb hW hms hmr hm hsg hla hlb hA0 hB0 hb0
  go_enter Try.func70, Try.ntmps70
  go_wp2_with fail
  refine (bdivmod_any _ _ _ a.natAbs _ _ _ b.natAbs _ HA.out HB.out hma hmb hbn).mono ?_
  rintro e w1 ⟨A1, l1, c1, A2, l2, c2, rfl, h1, ht1, h2, ht2, hb1⟩
  have hsz := hb1.size
  simp only [World.size_alloc] at hsz
  have hX0 := ZBox.nil ((w.alloc (zbox p A la ca)).alloc (zbox q B lb cb))
  have hX1 := (hX0.move (w' := (((w.alloc (zbox p A la ca)).alloc (zbox q B lb cb)).alloc (zbox 0 none 0 0)).alloc (zbox 0 none 0 0)) (by (repeat (first | exact Below.refl _ _ | refine Below.drew ?_ | refine Below.alloc ?_ (by first | (simp; done) | (simp; omega) | omega) _ | refine Below.setCell ?_ (by first | (simp; done) | (simp; omega) | omega) _)))).move hb1
  have hX2 := (ZBox.nil (((w.alloc (zbox p A la ca)).alloc (zbox q B lb cb)).alloc (zbox 0 none 0 0))).move hb1
  simp only [World.size_alloc] at hX1 hX2
  have HX1 := Lib.hid hX1
  have HX2 := Lib.hid hX2
  have H1 := Lib.hid h1
  have H2 := Lib.hid h2
  have T1 := Lib.hid ht1
  have T2 := Lib.hid ht2
  obtain ⟨hc, hf⟩ := bcell hb1
  have Hb1 := Lib.hid (HW.out.trans (hb1.mono HW.out.size))
  have e0 : w1.cell? ⟨w.heap.size, 0, none⟩ = some (.int .i64 p) := by rw [hc _ _ (by first | (simp; done) | (simp; omega) | omega)]; go_simp
  have e1 : w1.cell? ⟨w.heap.size + 1, 0, none⟩ = some (.int .i64 q) := by rw [hc _ _ (by first | (simp; done) | (simp; omega) | omega)]; go_simp
  have L1 : l1 ≤ 1000000 := by have := h1.length; rw [bts_length] at this; have := Hq.out; omega
  have L2 : l2 ≤ 1000000 := by have := h2.length; rw [bts_length] at this; have := Hr.out; omega
  clear h1 h2 ht1 ht2 hb1 hc hf hX0 hX1 hX2 HW HA HB
  go_wp2_with fail
  refine wp_region_last (S := fun w' => w'.cell? ⟨w.heap.size, 0, none⟩ = some (.int .i64 p) ∧ w'.cell? ⟨w.heap.size + 1, 0, none⟩ = some (.int .i64 q)) (by kernel_rfl) (by kernel_rfl) (by (try dsimp only); go_keep) (fun hHeld => ?_)
  simp only [List.pop_toArray, List.dropLast]
  (refine take_at (i := 0) (oi := _) (v := ?_) rfl rfl (by kernel_rfl) (by kernel_rfl) (by kernel_rfl) (fun _ _ _ h => h) (Or.inl ⟨by rfl, ?_⟩) (by assumption) ?_; rotate_left; (focus (intro w hSw; (try dsimp only at hSw); go_simp; (try with_reducible rfl))); (simp only [put_lit, List.set]))
  (refine take_at (i := 1) (oi := _) (v := ?_) rfl rfl (by kernel_rfl) (by kernel_rfl) (by kernel_rfl) (fun _ _ _ h => h) (Or.inl ⟨by rfl, ?_⟩) (by assumption) ?_; rotate_left; (focus (intro w hSw; (try dsimp only at hSw); go_simp; (try with_reducible rfl))); (simp only [put_lit, List.set]))
  (refine take_at (i := 2) (oi := _) (v := ?_) rfl rfl (by kernel_rfl) (by kernel_rfl) (by kernel_rfl) (fun _ _ _ h => h) (Or.inl ⟨by rfl, ?_⟩) (by assumption) ?_; rotate_left; (focus (intro w hSw; (try dsimp only at hSw); go_simp; (try with_reducible rfl))); (simp only [put_lit, List.set]))
  (refine take_at (i := 3) (oi := _) (v := ?_) rfl rfl (by kernel_rfl) (by kernel_rfl) (by kernel_rfl) (fun _ _ _ h => h) (Or.inl ⟨by rfl, ?_⟩) (by assumption) ?_; rotate_left; (focus (intro w hSw; (try dsimp only at hSw); go_simp; (try with_reducible rfl))); (simp only [put_lit, List.set]))
  (refine take_at (i := 4) (oi := _) (v := ?_) rfl rfl (by kernel_rfl) (by kernel_rfl) (by kernel_rfl) (fun _ _ _ h => h) (Or.inl ⟨by rfl, ?_⟩) (by assumption) ?_; rotate_left; (focus (intro w hSw; (try dsimp only at hSw); go_simp; (try with_reducible rfl))); (simp only [put_lit, List.set]))
  (refine take_at (i := 5) (oi := _) (v := ?_) rfl rfl (by kernel_rfl) (by kernel_rfl) (by kernel_rfl) (fun _ _ _ h => h) (Or.inl ⟨by rfl, ?_⟩) (by assumption) ?_; rotate_left; (focus (intro w hSw; (try dsimp only at hSw); go_simp; (try with_reducible rfl))); (simp only [put_lit, List.set]))
  (refine take_at (i := 6) (oi := _) (v := ?_) rfl rfl (by kernel_rfl) (by kernel_rfl) (by kernel_rfl) (fun _ _ _ h => h) (Or.inl ⟨by rfl, ?_⟩) (by assumption) ?_; rotate_left; (focus (intro w hSw; (try dsimp only at hSw); go_simp; (try with_reducible rfl))); (simp only [put_lit, List.set]))
  (refine take_at (i := 8) (oi := _) (v := ?_) rfl rfl (by kernel_rfl) (by kernel_rfl) (by kernel_rfl) (fun _ _ _ h => h) (Or.inl ⟨by rfl, ?_⟩) (by assumption) ?_; rotate_left; (focus (intro w hSw; (try dsimp only at hSw); go_simp; (try with_reducible rfl))); (simp only [put_lit, List.set]))
  (refine take_at (i := 9) (oi := _) (v := ?_) rfl rfl (by kernel_rfl) (by kernel_rfl) (by kernel_rfl) (fun _ _ _ h => h) (Or.inl ⟨by rfl, ?_⟩) (by assumption) ?_; rotate_left; (focus (intro w hSw; (try dsimp only at hSw); go_simp; (try with_reducible rfl))); (simp only [put_lit, List.set]))
  (refine take_at (i := 10) (oi := _) (v := ?_) rfl rfl (by kernel_rfl) (by kernel_rfl) (by kernel_rfl) (fun _ _ _ h => h) (Or.inl ⟨by rfl, ?_⟩) (by assumption) ?_; rotate_left; (focus (intro w hSw; (try dsimp only at hSw); go_simp; (try with_reducible rfl))); (simp only [put_lit, List.set]))
  (refine take_at (i := 11) (oi := _) (v := ?_) rfl rfl (by kernel_rfl) (by kernel_rfl) (by kernel_rfl) (fun _ _ _ h => h) (Or.inl ⟨by rfl, ?_⟩) (by assumption) ?_; rotate_left; (focus (intro w hSw; (try dsimp only at hSw); go_simp; (try with_reducible rfl))); (simp only [put_lit, List.set]))
  refine wpAnyH_ready (rs := [7]) (by kernel_rfl) (by simp) ?_
  refine AllReadyH.cons rfl (fun K hK => ?_) AllReadyH.nil; go_simp
  refine (zmake_any (decide (m < 0)) _ _ _ (a.natAbs / b.natAbs) _ (H1.out.below (by (repeat (first | exact Below.refl _ _ | refine Below.drew ?_ | refine Below.alloc ?_ (by first | (simp; done) | (simp; omega) | omega) _ | refine Below.setCell ?_ (by first | (simp; done) | (simp; omega) | omega) _)))) (T1.out.below (by (repeat (first | exact Below.refl _ _ | refine Below.drew ?_ | refine Below.alloc ?_ (by first | (simp; done) | (simp; omega) | omega) _ | refine Below.setCell ?_ (by first | (simp; done) | (simp; omega) | omega) _)))) L1).mono ?_
  rintro e w3 ⟨s3, A3, l3, c3, rfl, h3, hb3⟩
  rw [Hms.out] at h3
  obtain ⟨hcx, hfx⟩ := bcellS hb3
  have hb4 : Below w1.heap.size w1 w3 := Below.trans (by (repeat (first | exact Below.refl _ _ | refine Below.drew ?_ | refine Below.alloc ?_ (by first | (simp; done) | (simp; omega) | omega) _ | refine Below.setCell ?_ (by first | (simp; done) | (simp; omega) | omega) _))) (hb3.mono (by simp <;> omega))
  have H3 := Lib.hid h3
  have H2b := Lib.hid (H2.out.below hb4)
  have T2b := Lib.hid (T2.out.below hb4)
  have X1 := Lib.hid (HX1.out.move hb4)
  have X2 := Lib.hid (HX2.out.move hb4)
  have Hb3 := Lib.hid (Hb1.out.trans (hb4.mono (by omega)))
  have hs3 := hb4.size
  refine hK.out _ _ ?_ (fun _ => ?_)
  · ((try dsimp only); repeat' apply And.intro) <;> (rw [hcx _ (by go_simp)]; go_simp)
  clear hHeld hK K hcx hfx; rename_i hHeld
  clear h3 hb3 hb4 HX1 HX2 H1 T1 H2 T2 Hb1
  refine wpAnyH_ready (rs := [12]) (by kernel_rfl) (by simp) ?_
  refine AllReadyH.cons rfl (fun K hK => ?_) AllReadyH.nil; go_simp
  refine (zmake_any (decide (p < 0)) _ _ _ (a.natAbs % b.natAbs) _ (H2b.out.below (by (repeat (first | exact Below.refl _ _ | refine Below.drew ?_ | refine Below.alloc ?_ (by first | (simp; done) | (simp; omega) | omega) _ | refine Below.setCell ?_ (by first | (simp; done) | (simp; omega) | omega) _)))) (T2b.out.below (by (repeat (first | exact Below.refl _ _ | refine Below.drew ?_ | refine Below.alloc ?_ (by first | (simp; done) | (simp; omega) | omega) _ | refine Below.setCell ?_ (by first | (simp; done) | (simp; omega) | omega) _)))) L2).mono ?_
  rintro e w4 ⟨s4, A4, l4, c4, rfl, h4, hb4⟩
  rw [Hmr.out] at h4
  obtain ⟨hcx, hfx⟩ := bcellS hb4
  have hb5 : Below w3.heap.size w3 w4 := Below.trans (by (repeat (first | exact Below.refl _ _ | refine Below.drew ?_ | refine Below.alloc ?_ (by first | (simp; done) | (simp; omega) | omega) _ | refine Below.setCell ?_ (by first | (simp; done) | (simp; omega) | omega) _))) (hb4.mono (by simp <;> omega))
  have H4 := Lib.hid h4
  have H3b := Lib.hid (H3.out.below hb5)
  have X1b := Lib.hid (X1.out.move hb5)
  have X2b := Lib.hid (X2.out.move hb5)
  have Hb4 := Lib.hid (Hb3.out.trans (hb5.mono (by omega)))
  have hs4 := hb5.size
  refine hK.out _ _ ?_ (fun _ => ?_)
  · ((try dsimp only); repeat' apply And.intro) <;> (rw [hcx _ (by go_simp)]; go_simp)
  clear hHeld hK K hcx hfx; rename_i hHeld
  clear h4 hb4 hb5 H3 X1 X2 Hb3 H2b T2b e0 e1
  have k0 := X1b.out.c0
  have k1 := X1b.out.c1
  have k2 := X1b.out.f0
  have k3 := X1b.out.f1
  refine wpAnyH_ready (rs := [13]) (by kernel_rfl) (by simp) ?_
  refine AllReadyH.cons rfl (fun K hK => ?_) AllReadyH.nil
  go_simp
  refine hK.out _ _ ?_ (fun _ => ?_)
  · exact ⟨by rw [World.cell?_setCell_other _ _ _ _ (by intro e; injection e with e _; omega), World.cell?_setCell_other _ _ _ _ (by intro e; injection e with e _; omega)]; exact hHeld.1, by rw [World.cell?_setCell_other _ _ _ _ (by intro e; injection e with e _; omega), World.cell?_setCell_other _ _ _ _ (by intro e; injection e with e _; omega)]; exact hHeld.2⟩
  clear hHeld hK K
  rename_i hHeld
  refine wpAnyH_done (by kernel_rfl) (lastQ_list rfl ?_) _
  clear hHeld
  have X1c := Lib.hid (X1b.out.put H3b.out)
  have H4c := Lib.hid (H4.out.put X1b.out (.int .i64 s3) (.slice A3 l3 c3))
  have X2c := Lib.hid (X2b.out.far X1b.out (by omega) (.int .i64 s3) (.slice A3 l3 c3))
  have Hb5 := Lib.hid ((Hb4.out.setCell (p := ⟨w.heap.size + 1 + 1, 0, none⟩) (by first | (simp; done) | (simp; omega) | omega) (.int .i64 s3)).setCell (p := ⟨w.heap.size + 1 + 1, 1, none⟩) (by first | (simp; done) | (simp; omega) | omega) (.slice A3 l3 c3))
  obtain ⟨w5, hw5⟩ : ∃ w5, w5 = (w4.setCell ⟨w.heap.size + 1 + 1, 0, none⟩ (.int .i64 s3)).setCell ⟨w.heap.size + 1 + 1, 1, none⟩ (.slice A3 l3 c3) := ⟨_, rfl⟩
  rw [← hw5] at X1c H4c X2c Hb5 ⊢
  clear hw5 k0 k1 k2 k3 X1b X2b H3b H4 Hb4
  have j0 := X2c.out.c0
  have j1 := X2c.out.c1
  have j2 := X2c.out.f0
  have j3 := X2c.out.f1
  have i0 := X1c.out.c0
  have i3 := X1c.out.c1
  go_wp2
  refine bodyPost_ret (v := .tuple #[.agg #[.int .i64 s3, .slice A3 l3 c3], .agg #[.int .i64 s4, .slice A4 l4 c4]]) (by simp [results, Try.results70, go_sem, i0, i3, j0, j1]) rfl ⟨_, _, _, _, _, _, _, _, rfl, X1c.out.hz.put X2c.out _ _, H4c.out.put X2c.out _ _, (Hb5.out.setCell (p := ⟨w.heap.size + 1 + 1 + 1, 0, none⟩) (by first | (simp; done) | (simp; omega) | omega) _).setCell (p := ⟨w.heap.size + 1 + 1 + 1, 1, none⟩) (by first | (simp; done) | (simp; omega) | omega) _⟩
end Go.Proofs.Ytgblfpkfapmlnaa
