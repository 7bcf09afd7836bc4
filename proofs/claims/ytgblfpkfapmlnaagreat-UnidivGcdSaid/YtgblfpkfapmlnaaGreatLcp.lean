/- The walk of unidiv.Lcm; cylinderref08.Same on equal lists; sizes. -/
import Derived.Test.YtgblfpkfapmlnaaGreatFew
import Derived.Test.YtgblfpkfapmlnaaGreatZgd
import Derived.Test.YtgblfpkfapmlnaaGreatZmu
import Derived.Test.YtgblfpkfapmlnaaGreatBtr
namespace Go.Proofs.YtgblfpkfapmlnaaGreat
open Go Go.RowKit

theorem ncmp_self (n : Nat) : ncmp n n = 0 := by unfold ncmp; rw [if_neg (by omega), if_neg (by omega)]
set_option maxRecDepth 100000 in
set_option maxHeartbeats 1000000 in
/-- equal numbers are equal -/
theorem zcmp_same (s : Int) (A : Option Addr) (la ca : Nat) (s' : Int) (B : Option Addr) (lb cb : Nat) (z : Int) (w : World) (ha : ZAt w s A la ca z) (hb : ZAt w s' B lb cb z) (hm : la ≤ 1000000) :
    Calls Tryz.prog 60 #[.agg #[.int .i64 s, .slice A la ca], .agg #[.int .i64 s', .slice B lb cb]] w fun e w' => e = .returned (.int .i64 0) ∧ Below w.heap.size w w' := by
  have hs : s' = s := by rw [ha.sign, hb.sign]
  subst hs
  have hl : lb ≤ 1000000 := by have h1 := ha.len; have h2 := hb.len; omega
  have hb0 : Below w.heap.size w ((w.alloc (zbox s' A la ca)).alloc (zbox s' B lb cb)) := below_two w _ _ (Nat.le_refl _)
  have HA := Lib.hid (ha.bits.below hb0)
  have HB := Lib.hid (hb.bits.below hb0)
  have Hb0 := Lib.hid hb0
  have hsb := ha.sgb
  have hz : s' * 0 = 0 := Int.mul_zero _
  obtain ⟨W, hW⟩ : ∃ W, W = ((w.alloc (zbox s' A la ca)).alloc (zbox s' B lb cb)) := ⟨_, rfl⟩
  have a0 : W.cell? ⟨w.heap.size, 0, none⟩ = some (.int .i64 s') := by rw [hW]; go_simp
  have a1 : W.cell? ⟨w.heap.size, 1, none⟩ = some (.slice A la ca) := by rw [hW]; go_simp
  have b1 : W.cell? ⟨w.heap.size + 1, 1, none⟩ = some (.slice B lb cb) := by rw [hW]; go_simp
  clear ha hb hb0
  go_enter Tryz.func60, Tryz.ntmps60
  go_wp2_with fail
  rw [← hW] at HA HB Hb0 ⊢
  clear hW
  refine wp_region_held_drew (S := fun w' => w'.cell? ⟨w.heap.size, 0, none⟩ = some (.int .i64 s') ∧ w'.cell? ⟨w.heap.size, 1, none⟩ = some (.slice A la ca) ∧ w'.cell? ⟨w.heap.size + 1, 1, none⟩ = some (.slice B lb cb)) (by kernel_rfl) (by (try dsimp only); go_keep) (fun hHeld => ?_)
  (refine take_at (i := 0) (oi := _) (v := ?_) rfl rfl (by kernel_rfl) (by kernel_rfl) (by kernel_rfl) (fun _ _ _ h => h) (Or.inl ⟨by rfl, ?_⟩) (by assumption) ?_; rotate_left; (focus (intro w hSw; (try dsimp only at hSw); go_simp; (try with_reducible rfl))); (simp only [put_lit, List.set]))
  (refine take_at (i := 1) (oi := _) (v := ?_) rfl rfl (by kernel_rfl) (by kernel_rfl) (by kernel_rfl) (fun _ _ _ h => h) (Or.inl ⟨by rfl, ?_⟩) (by assumption) ?_; rotate_left; (focus (intro w hSw; (try dsimp only at hSw); go_simp; (try with_reducible rfl))); (simp only [put_lit, List.set]))
  (refine take_at (i := 2) (oi := _) (v := ?_) rfl rfl (by kernel_rfl) (by kernel_rfl) (by kernel_rfl) (fun _ _ _ h => h) (Or.inl ⟨by rfl, ?_⟩) (by assumption) ?_; rotate_left; (focus (intro w hSw; (try dsimp only at hSw); go_simp; (try with_reducible rfl))); (simp only [put_lit, List.set]))
  (refine take_at (i := 3) (oi := _) (v := ?_) rfl rfl (by kernel_rfl) (by kernel_rfl) (by kernel_rfl) (fun _ _ _ h => h) (Or.inl ⟨by rfl, ?_⟩) (by assumption) ?_; rotate_left; (focus (intro w hSw; (try dsimp only at hSw); go_simp; (try with_reducible rfl))); (simp only [put_lit, List.set]))
  (refine take_at (i := 4) (oi := _) (v := ?_) rfl rfl (by kernel_rfl) (by kernel_rfl) (by kernel_rfl) (fun _ _ _ h => h) (Or.inl ⟨by rfl, ?_⟩) (by assumption) ?_; rotate_left; (focus (intro w hSw; (try dsimp only at hSw); go_simp; (try with_reducible rfl))); (simp only [put_lit, List.set]))
  (refine take_at (i := 5) (oi := _) (v := ?_) rfl rfl (by kernel_rfl) (by kernel_rfl) (by kernel_rfl) (fun _ _ _ h => h) (Or.inl ⟨by rfl, ?_⟩) (by assumption) ?_; rotate_left; (focus (intro w hSw; (try dsimp only at hSw); go_simp; (try with_reducible rfl))); (simp only [put_lit, List.set]))
  refine wpAnyH_ready (rs := [6]) (by kernel_rfl) (by simp) ?_
  refine AllReadyH.cons rfl (fun K hK => ?_) AllReadyH.nil; go_simp
  refine (bcmp_any _ _ _ z.natAbs _ _ _ z.natAbs _ (HA.out.below (by (repeat (first | exact Below.refl _ _ | refine Below.drew ?_ | refine Below.alloc ?_ (by first | (simp; done) | (simp; omega) | omega) _ | refine Below.setCell ?_ (by first | (simp; done) | (simp; omega) | omega) _)))) (HB.out.below (by (repeat (first | exact Below.refl _ _ | refine Below.drew ?_ | refine Below.alloc ?_ (by first | (simp; done) | (simp; omega) | omega) _ | refine Below.setCell ?_ (by first | (simp; done) | (simp; omega) | omega) _)))) hm hl).mono ?_
  rintro e w3 ⟨rfl, rfl⟩
  rw [ncmp_self]
  refine hK.out _ _ ?_ (fun _ => ?_)
  · exact hHeld
  clear hHeld hK K
  rename_i hHeld
  (refine take_at (i := 7) (oi := _) (v := ?_) rfl rfl (by kernel_rfl) (by kernel_rfl) (by kernel_rfl) (fun _ _ _ h => h) (Or.inl ⟨by rfl, ?_⟩) (by assumption) ?_; rotate_left; (focus (intro w hSw; (try dsimp only at hSw); go_simp; (try with_reducible rfl))); (simp only [put_lit, List.set]))
  (refine take_at (i := 8) (oi := _) (v := ?_) rfl rfl (by kernel_rfl) (by kernel_rfl) (by kernel_rfl) (fun _ _ _ h => h) (Or.inl ⟨by rfl, ?_⟩) (by assumption) ?_; rotate_left; (focus (intro w hSw; (try dsimp only at hSw); go_simp; (try with_reducible rfl))); (simp only [put_lit, List.set]))
  refine wpAnyH_done (by kernel_rfl) ?_ _
  clear hHeld
  go_wp2
  go_ret
  exact ⟨rfl, Hb0.out.trans (by (repeat (first | exact Below.refl _ _ | refine Below.drew ?_ | refine Below.alloc ?_ (by first | (simp; done) | (simp; omega) | omega) _ | refine Below.setCell ?_ (by first | (simp; done) | (simp; omega) | omega) _)))⟩

set_option maxRecDepth 100000 in
set_option maxHeartbeats 4000000 in
theorem zpsame_any (A : Option Addr) (la ca : Nat) (f : List Int) (B : Option Addr) (lb cb : Nat) (w : World) (hf : ZP w A la ca f) (hg : ZP w B lb cb f) (hla : la ≤ 1000) (bf : ZB 1000000 f) :
    Calls Tryz.prog 26 #[.slice A la ca, .slice B lb cb] w fun e w' => e = .returned (.bool true) ∧ Below w.heap.size w w' := by
  have hlb : lb = la := by rw [← hf.length, ← hg.length]
  subst hlb
  have HF := Lib.hid hf
  have HG := Lib.hid hg
  have Bf := Lib.hid bf
  clear hf hg bf
  go_enter Tryz.func26, Tryz.ntmps26
  go_wp2
  go_loopw [5] (fun s5 wr => ∃ k : Nat, k ≤ lb ∧ s5 = .int .i64 (k : Int) ∧ Below w.heap.size w wr) (fun s5 _ => lb - (intOf s5).toNat)
  case atStart => exact ⟨0, Nat.zero_le _, rfl, Below.refl _ _⟩
  case round =>
    obtain ⟨k, hk, rfl, hbw⟩ := hrel
    have hbs := hbw.size
    have Hbw := Lib.hid hbw
    by_cases hlt : k < lb
    · obtain ⟨c1, o1, rfl, hb1, hc1⟩ := HF.out.at_ (by omega)
      obtain ⟨s1, A1, l1, d1, e0, e1, hz1⟩ := hc1 k hlt
      obtain ⟨c2, o2, rfl, hb2, hc2⟩ := HG.out.at_ (by omega)
      obtain ⟨s2, A2, l2, d2, e2, e3, hz2⟩ := hc2 k hlt
      have e0 := (hbw.cell (p := ⟨c1, o1 + k * 2, none⟩) hb1).trans e0
      have e1 := (hbw.cell (p := ⟨c1, o1 + k * 2 + 1, none⟩) hb1).trans e1
      have e2 := (hbw.cell (p := ⟨c2, o2 + k * 2, none⟩) hb2).trans e2
      have e3 := (hbw.cell (p := ⟨c2, o2 + k * 2 + 1, none⟩) hb2).trans e3
      have Z1 := Lib.hid (hz1.below hbw)
      have Z2 := Lib.hid (hz2.below hbw)
      have t1 : (k : Int) < (lb : Int) := by omega
      have L1 : l1 ≤ 1000000 := by have := hz1.len; have := Bf.out k; omega
      clear hc1 hz1 hc2 hz2 hbw
      go_wp2_with fail
      refine wp_region_held_drew (S := fun w' => w'.cell? ⟨c1, o1 + k * 2, none⟩ = some (.int .i64 s1) ∧ w'.cell? ⟨c1, o1 + k * 2 + 1, none⟩ = some (.slice A1 l1 d1) ∧ w'.cell? ⟨c2, o2 + k * 2, none⟩ = some (.int .i64 s2) ∧ w'.cell? ⟨c2, o2 + k * 2 + 1, none⟩ = some (.slice A2 l2 d2)) (by kernel_rfl) (by (try dsimp only); go_keep) (fun hHeld => ?_)
      (refine take_at (i := 0) (oi := _) (v := ?_) rfl rfl (by kernel_rfl) (by kernel_rfl) (by kernel_rfl) (fun _ _ _ h => h) (Or.inl ⟨by rfl, ?_⟩) (by assumption) ?_; rotate_left; (focus (intro w hSw; (try dsimp only at hSw); go_simp; (try with_reducible rfl))); (simp only [put_lit, List.set]))
      (refine take_at (i := 1) (oi := _) (v := ?_) rfl rfl (by kernel_rfl) (by kernel_rfl) (by kernel_rfl) (fun _ _ _ h => h) (Or.inl ⟨by rfl, ?_⟩) (by assumption) ?_; rotate_left; (focus (intro w hSw; (try dsimp only at hSw); go_simp; (try with_reducible rfl))); (simp only [put_lit, List.set]))
      (refine take_at (i := 2) (oi := _) (v := ?_) rfl rfl (by kernel_rfl) (by kernel_rfl) (by kernel_rfl) (fun _ _ _ h => h) (Or.inl ⟨by rfl, ?_⟩) (by assumption) ?_; rotate_left; (focus (intro w hSw; (try dsimp only at hSw); go_simp; (try with_reducible rfl))); (simp only [put_lit, List.set]))
      (refine take_at (i := 3) (oi := _) (v := ?_) rfl rfl (by kernel_rfl) (by kernel_rfl) (by kernel_rfl) (fun _ _ _ h => h) (Or.inl ⟨by rfl, ?_⟩) (by assumption) ?_; rotate_left; (focus (intro w hSw; (try dsimp only at hSw); go_simp; (try with_reducible rfl))); (simp only [put_lit, List.set]))
      (refine take_at (i := 4) (oi := _) (v := ?_) rfl rfl (by kernel_rfl) (by kernel_rfl) (by kernel_rfl) (fun _ _ _ h => h) (Or.inl ⟨by rfl, ?_⟩) (by assumption) ?_; rotate_left; (focus (intro w hSw; (try dsimp only at hSw); go_simp; (try with_reducible rfl))); (simp only [put_lit, List.set]))
      (refine take_at (i := 5) (oi := _) (v := ?_) rfl rfl (by kernel_rfl) (by kernel_rfl) (by kernel_rfl) (fun _ _ _ h => h) (Or.inl ⟨by rfl, ?_⟩) (by assumption) ?_; rotate_left; (focus (intro w hSw; (try dsimp only at hSw); go_simp; (try with_reducible rfl))); (simp only [put_lit, List.set]))
      (refine take_at (i := 6) (oi := _) (v := ?_) rfl rfl (by kernel_rfl) (by kernel_rfl) (by kernel_rfl) (fun _ _ _ h => h) (Or.inl ⟨by rfl, ?_⟩) (by assumption) ?_; rotate_left; (focus (intro w hSw; (try dsimp only at hSw); go_simp; (try with_reducible rfl))); (simp only [put_lit, List.set]))
      (refine take_at (i := 7) (oi := _) (v := ?_) rfl rfl (by kernel_rfl) (by kernel_rfl) (by kernel_rfl) (fun _ _ _ h => h) (Or.inl ⟨by rfl, ?_⟩) (by assumption) ?_; rotate_left; (focus (intro w hSw; (try dsimp only at hSw); go_simp; (try with_reducible rfl))); (simp only [put_lit, List.set]))
      refine wpAnyH_ready (rs := [8]) (by kernel_rfl) (by simp) ?_
      refine AllReadyH.cons rfl (fun K hK => ?_) AllReadyH.nil; go_simp
      refine (zcmp_same _ _ _ _ _ _ _ _ (f.getD k 0) _ (Z1.out.below (by (repeat (first | exact Below.refl _ _ | refine Below.drew ?_ | refine Below.alloc ?_ (by first | (simp; done) | (simp; omega) | omega) _ | refine Below.setCell ?_ (by first | (simp; done) | (simp; omega) | omega) _)))) (Z2.out.below (by (repeat (first | exact Below.refl _ _ | refine Below.drew ?_ | refine Below.alloc ?_ (by first | (simp; done) | (simp; omega) | omega) _ | refine Below.setCell ?_ (by first | (simp; done) | (simp; omega) | omega) _)))) L1).mono ?_
      rintro e w3 ⟨rfl, hb3⟩
      obtain ⟨hcx, hfx⟩ := bcellS hb3
      have hb4 : Below wr.heap.size wr w3 := Below.trans (by (repeat (first | exact Below.refl _ _ | refine Below.drew ?_ | refine Below.alloc ?_ (by first | (simp; done) | (simp; omega) | omega) _ | refine Below.setCell ?_ (by first | (simp; done) | (simp; omega) | omega) _))) (hb3.mono (by simp <;> omega))
      have Hb4 := Lib.hid (Hbw.out.trans (hb4.mono hbs))
      refine hK.out _ _ ?_ (fun _ => ?_)
      · ((try dsimp only); repeat' apply And.intro) <;> (rw [hcx _ (by go_simp)]; go_simp)
      clear hHeld hK K hcx hfx; rename_i hHeld
      clear hb3 hb4
      (refine take_at (i := 9) (oi := _) (v := ?_) rfl rfl (by kernel_rfl) (by kernel_rfl) (by kernel_rfl) (fun _ _ _ h => h) (Or.inl ⟨by rfl, ?_⟩) (by assumption) ?_; rotate_left; (focus (intro w hSw; (try dsimp only at hSw); go_simp; (try with_reducible rfl))); (simp only [put_lit, List.set]))
      refine wpAnyH_done (by kernel_rfl) ?_ _
      clear hHeld
      go_wp2_with fail
      go_roundw
      case rel => exact ⟨k + 1, by omega, by go_num, Hb4.out⟩
      case measure => simp [intOf]; omega
    · have hkM : k = lb := by omega
      subst hkM
      have t1 : ¬ (k : Int) < (k : Int) := by omega
      clear hbw
      go_wp2
      go_ret
      exact ⟨rfl, Hbw.out⟩

set_option maxRecDepth 100000 in
set_option maxHeartbeats 4000000 in
theorem lcm_any {I J : IntPred} (hI : IK I) (hJ : IK J) (A : Option Addr) (la ca : Nat) (f : List Int) (B : Option Addr) (lb cb : Nat) (g : List Int) (w : World) (hf : PolyP I w A la ca f) (hg : PolyP J w B lb cb g) (hla : la ≤ 1000) (hlb : lb ≤ 1000) (f7 : Few7 f) (g7 : Few7 g) :
    Calls Tryz.prog 22 #[.slice A la ca, .slice B lb cb] w fun e w' => ∃ A1 l1 c1, e = .returned (.slice A1 l1 c1) ∧ PolyN w' A1 l1 c1 (plcm f g) ∧ Below w.heap.size w w' := by
  have HF := Lib.hid hf
  have HG := Lib.hid hg
  have F7 := Lib.hid f7
  have G7 := Lib.hid g7
  clear hf hg f7 g7
  by_cases f0 : plen f = 0
  · have hp : plcm f g = [] := by unfold plcm; rw [if_pos (.inl f0)]
    have Hp := Lib.hid hp
    have F0 := Lib.hid f0
    clear f0 hp
    go_enter Tryz.func22, Tryz.ntmps22
    go_wp2_with fail
    refine (degree_any _ _ _ f _ (HF.out.at_ hI) F7.out.fit.smp (by omega)).mono ?_
    rintro e w1 ⟨rfl, hb1⟩
    rw [F0.out]
    have Hb1 := Lib.hid hb1
    clear hb1 HF HG
    go_wp2
    go_ret
    exact ⟨_, _, _, rfl, by rw [Hp.out]; exact PolyP.nil _ _ _ _, Hb1.out⟩
  · obtain ⟨df, hdf⟩ : ∃ d, plen f = d + 1 := ⟨plen f - 1, by omega⟩
    have Hdf := Lib.hid hdf
    have F0 := Lib.hid f0
    have df0 : decide ((df : Int) < 0) = false := decide_eq_false (by omega)
    clear hdf f0
    by_cases g0 : plen g = 0
    · have hp : plcm f g = [] := by unfold plcm; rw [if_pos (.inr g0)]
      have Hp := Lib.hid hp
      have G0 := Lib.hid g0
      clear g0 hp
      go_enter Tryz.func22, Tryz.ntmps22
      go_wp2_with fail
      refine (degree_any _ _ _ f _ (HF.out.at_ hI) F7.out.fit.smp (by omega)).mono ?_
      rintro e w1 ⟨rfl, hb1⟩
      rw [Hdf.out, show ((df + 1 : Nat) : Int) - 1 = (df : Int) by omega]
      have HG1 := Lib.hid (HG.out.below hJ hb1)
      have Hb1 := Lib.hid hb1
      clear hb1 HF HG
      go_wp2_with fail
      refine (degree_any _ _ _ g _ (HG1.out.at_ hJ) G7.out.fit.smp (by omega)).mono ?_
      rintro e w2 ⟨rfl, hb2⟩
      rw [G0.out]
      have Hb2 := Lib.hid (Hb1.out.trans (hb2.mono Hb1.out.size))
      clear hb2 HG1 Hb1
      go_wp2
      go_ret
      exact ⟨_, _, _, rfl, by rw [Hp.out]; exact PolyP.nil _ _ _ _, Hb2.out⟩
    · obtain ⟨dg, hdg⟩ : ∃ d, plen g = d + 1 := ⟨plen g - 1, by omega⟩
      have Hdg := Lib.hid hdg
      have dg0 : decide ((dg : Int) < 0) = false := decide_eq_false (by omega)
      have hp : plcm f g = ppos (polymul (ptrim (pexq f (gres f g))) (ptrim g)) := by unfold plcm; rw [if_neg (by have := F0.out; omega)]
      have Hp := Lib.hid hp
      have Hdt := Lib.hid (gres_dt F7.out G7.out)
      have hG := gres_is (few7_ga F7.out G7.out)
      have D0 : plen (gres f g) ≠ 0 := by
        rcases hG with ⟨h, _⟩ | ⟨_, h⟩
        · exact absurd h F0.out
        · exact h.ne
      have Hgood := Lib.hid (gcd_good hG D0)
      have D1 := Lib.hid (show 1 ≤ plen (gres f g) by omega)
      have Hsz := Lib.hid (gres_sz F7.out G7.out F0.out)
      have Hdd := Lib.hid (show Dl 47 (gres f g) from fun j => dlen_le_of_lt (Nat.lt_of_le_of_lt (gres_bd F7.out G7.out F0.out j).1 (by rw [BB_eq]; decide +kernel)))
      have Hqf := Lib.hid (show FitP (pexq f (gres f g)) from fun j => Nat.lt_of_le_of_lt (gres_bd F7.out G7.out F0.out j).2 (by rw [BB_eq]; decide +kernel))
      have Hql := Lib.hid (pexq_length f (gres f g))
      have pf7 := F7.out.1
      have pg7 := G7.out.1
      have Hml := Lib.hid (show (polymul (ptrim (pexq f (gres f g))) (ptrim g)).length ≤ 14 from by
        unfold polymul
        split
        · simp
        · rw [pmul_length, ptrim_length, ptrim_length]
          have := plen_le (pexq f (gres f g))
          rw [pexq_length] at this
          omega)
      have Hmf := Lib.hid (show SmP (polymul (ptrim (pexq f (gres f g))) (ptrim g)) from by
        have hb : ∀ j, ((polymul (ptrim (pexq f (gres f g))) (ptrim g)).getD j 0).natAbs ≤ (ptrim g).length * (gdB * 18446744073709551616) := fun j => by
          have h1 := rmz_bd (f := ptrim (pexq f (gres f g))) (g := ptrim g) (X := gdB) (Y := 18446744073709551616) (fun j => by rw [ptrim_getD]; exact (gres_bd F7.out G7.out F0.out j).2) (fun j => by rw [ptrim_getD]; exact G7.out.2 j) (ptrim g).length j
          rwa [rmz_all, ptrim_getD] at h1
        exact (show FitP _ from fun j => Nat.lt_of_le_of_lt (Nat.le_trans (hb j) (Nat.mul_le_mul_right _ (show (ptrim g).length ≤ 7 by rw [ptrim_length]; exact pg7))) (by rw [BB_eq]; decide +kernel)).smp)
      clear hdg g0 hp hG D0
      go_enter Tryz.func22, Tryz.ntmps22
      go_wp2_with fail
      refine (degree_any _ _ _ f _ (HF.out.at_ hI) F7.out.fit.smp (by omega)).mono ?_
      rintro e w1 ⟨rfl, hb1⟩
      rw [Hdf.out, show ((df + 1 : Nat) : Int) - 1 = (df : Int) by omega]
      have HF1 := Lib.hid (HF.out.below hI hb1)
      have HG1 := Lib.hid (HG.out.below hJ hb1)
      have Hb1 := Lib.hid hb1
      clear hb1 HF HG
      go_wp2_with fail
      refine (degree_any _ _ _ g _ (HG1.out.at_ hJ) G7.out.fit.smp (by omega)).mono ?_
      rintro e w2 ⟨rfl, hb2⟩
      rw [Hdg.out, show ((dg + 1 : Nat) : Int) - 1 = (dg : Int) by omega]
      have HF2 := Lib.hid (HF1.out.below hI hb2)
      have HG2 := Lib.hid (HG1.out.below hJ hb2)
      have Hb2 := Lib.hid (Hb1.out.trans (hb2.mono Hb1.out.size))
      clear hb2 HF1 HG1 Hb1
      go_wp2_with fail
      refine (gcd_any hI hJ _ _ _ f _ _ _ g _ HF2.out HG2.out F7.out.fit.smp G7.out.fit.smp (by omega) (by omega) (few7_ga F7.out G7.out)).mono ?_
      rintro e w3 ⟨A3, l3, c3, rfl, h3, hb3⟩
      have hl3 : l3 ≤ 7 := by rw [← h3.length]; exact Hdt.out.len
      have H3 := Lib.hid h3
      have HF3 := Lib.hid (HF2.out.below hI hb3)
      have HG3 := Lib.hid (HG2.out.below hJ hb3)
      have Hb3 := Lib.hid (Hb2.out.trans (hb3.mono Hb2.out.size))
      clear h3 hb3 HF2 HG2 Hb2
      go_wp2_with fail
      refine (exact_gen hI ikN _ _ _ f _ _ _ (gres f g) 47 47 _ HF3.out H3.out F7.out.fit.smp Hdd.out D1.out (by omega) (by omega) (by omega) (by omega) Hsz.out).mono ?_
      rintro e w4 h4
      obtain ⟨A4, l4, c4, rfl, h4p, hb4⟩ : ∃ A1 l1 c1, e = .returned (.tuple #[.slice A1 l1 c1, .int .i64 0]) ∧ PolyN w4 A1 l1 c1 (pexq f (gres f g)) ∧ Below w3.heap.size w3 w4 := by
        rcases h4 with ⟨_, A1, l1, c1, r1, r2, r3⟩ | ⟨r1, _⟩
        · exact ⟨A1, l1, c1, r1, r2, r3⟩
        · exact absurd Hgood.out r1
      have hl4 : l4 ≤ 7 := by rw [← h4p.length, Hql.out]; omega
      have H4 := Lib.hid h4p
      have HG4 := Lib.hid (HG3.out.below hJ hb4)
      have Hb4 := Lib.hid (Hb3.out.trans (hb4.mono Hb3.out.size))
      clear h4 h4p hb4 HF3 HG3 Hb3 H3
      go_wp2_with fail
      refine (polymul_any ikN hJ _ _ _ (pexq f (gres f g)) _ _ _ g _ H4.out HG4.out Hqf.out G7.out.fit (by omega) (by omega)).mono ?_
      rintro e w5 ⟨A5, l5, c5, rfl, h5, hb5⟩
      have hl5 : l5 ≤ 14 := by rw [← h5.length]; exact Hml.out
      have H5 := Lib.hid h5
      have Hb5 := Lib.hid (Hb4.out.trans (hb5.mono Hb4.out.size))
      clear h5 hb5 HG4 Hb4 H4
      go_wp2_with fail
      refine (positive_any ikN _ _ _ (polymul (ptrim (pexq f (gres f g))) (ptrim g)) _ H5.out Hmf.out (by omega)).mono ?_
      rintro e w6 ⟨A6, l6, c6, rfl, h6, hb6⟩
      have H6 := Lib.hid h6
      have Hb6 := Lib.hid (Hb5.out.trans (hb6.mono Hb5.out.size))
      clear h6 hb6 H5 Hb5
      go_wp2
      go_ret
      exact ⟨_, _, _, rfl, by rw [Hp.out]; exact H6.out, Hb6.out⟩

theorem fewg7 {w : World} {A : Option Addr} {len cap : Nat} {p : List Int} (h : FewQ w 7 2 A len cap p) : Few7 p := by
  have h1 := plen_le p
  have h2 := h.at_.length
  have h3 := h.le
  refine ⟨by omega, fun j => ?_⟩
  have := h.lt j
  rw [BB_eq] at this
  omega
theorem gd_zb {f : List Int} (h : Few7 f) : ZB 1000 (ptrim f) := fun j => by
  rw [ptrim_getD]
  exact Nat.le_trans (bln_mono (h.2 j)) (by decide +kernel)
theorem gd_dl {f : List Int} (h : Few7 f) (j : Nat) : dlen (f.getD j 0).natAbs ≤ 1000 := Nat.le_trans (dlen_le_of_lt (k := 3) (Nat.lt_of_le_of_lt (h.2 j) (by rw [BB_eq]; decide +kernel))) (by decide)
abbrev lcB : Nat := 7 * (gdB * 18446744073709551616)
theorem gd_mul_bd {f g : List Int} (hf : Few7 f) (hg : Few7 g) (j : Nat) : ((polymul (ptrim f) (ptrim g)).getD j 0).natAbs ≤ lcB := by
  have h1 := rmz_bd (f := ptrim f) (g := ptrim g) (X := 18446744073709551616) (Y := 18446744073709551616) (fun j => by rw [ptrim_getD]; exact hf.2 j) (fun j => by rw [ptrim_getD]; exact hg.2 j) (ptrim g).length j
  rw [rmz_all, ptrim_getD] at h1
  exact Nat.le_trans h1 (Nat.mul_le_mul (show (ptrim g).length ≤ 7 by rw [ptrim_length]; exact hg.1) (by decide +kernel))
theorem ppos_bd {p : List Int} {X : Nat} (h : ∀ j, (p.getD j 0).natAbs ≤ X) (j : Nat) : ((ppos p).getD j 0).natAbs ≤ X := by
  rcases ppos_or p with ⟨h1, _⟩ | ⟨h1, _⟩
  · rw [h1]; exact h j
  · rw [h1, Int.natAbs_neg]; exact h j
theorem ppos_length (p : List Int) : (ppos p).length = plen p := by
  have := congrArg List.length (ppos_trim p)
  rw [ptrim_length, ppos_plen] at this
  exact this.symm
theorem plcm_ok {f g : List Int} (hf : Few7 f) (hg : Few7 g) : (plcm f g).length ≤ 14 ∧ ∀ j, ((plcm f g).getD j 0).natAbs ≤ lcB := by
  unfold plcm
  split
  · exact ⟨by decide, fun j => by rw [show ([] : List Int).getD j 0 = 0 by simp]; decide +kernel⟩
  · rename_i h0
    refine ⟨?_, fun j => ppos_bd (fun j => ?_) j⟩
    · rw [ppos_length]
      refine Nat.le_trans (plen_le _) ?_
      unfold polymul
      split
      · simp
      · rw [pmul_length, ptrim_length, ptrim_length]
        have := plen_le (pexq f (gres f g))
        rw [pexq_length] at this
        have := hf.1
        have := hg.1
        omega
    · have h1 := rmz_bd (f := ptrim (pexq f (gres f g))) (g := ptrim g) (X := gdB) (Y := 18446744073709551616) (fun j => by rw [ptrim_getD]; exact (gres_bd hf hg (by omega) j).2) (fun j => by rw [ptrim_getD]; exact hg.2 j) (ptrim g).length j
      rw [rmz_all, ptrim_getD] at h1
      exact Nat.le_trans h1 (Nat.mul_le_mul_right _ (show (ptrim g).length ≤ 7 by rw [ptrim_length]; exact hg.1))
theorem zsc_pmn (p : List Int) : zsc (ptrim p) (-1) = pmn (ptrim p) := by
  have hl : plen (pmn (ptrim p)) = plen p := by rw [plen_scale (c := 1) (d := -1) (p := pmn (ptrim p)) (q := ptrim p) (by decide) (by decide) (fun k => by rw [pmn_getD]; omega), plen_ptrim]
  refine eq_of_trim (zsc_trim _ _) ?_ fun k => by rw [zsc_get, pmn_getD]; omega
  unfold ptrim
  rw [show plen (pmn (p.take (plen p))) = plen p from hl]
  unfold pmn
  rw [List.take_of_length_le]
  rw [List.length_map]
  exact List.length_take_le _ _
end Go.Proofs.YtgblfpkfapmlnaaGreat
