/- The walks of cylinderlaw08.Of and Is. -/
import Derived.Test.YtgblfpkfapmlnaaGreatBtl
import Derived.Test.YtgblfpkfapmlnaaGreatIdP
namespace Go.Proofs.YtgblfpkfapmlnaaGreat
open Go.RowKit

set_option maxRecDepth 100000 in
set_option maxHeartbeats 4000000 in
theorem lof_any {I : IntPred} (hI : IK I) (A : Option Addr) (la ca : Nat) (p : List Int) (w : World) (h : PolyP I w A la ca p) (hla : la ≤ 1000) (hd : ∀ j, dlen (p.getD j 0).natAbs ≤ 1000) :
    Calls Tryz.prog 8 #[.slice A la ca] w (PRet w (ptrim p) (0 < la)) := by
  have HP := Lib.hid (h.at_ hI)
  have Hd := Lib.hid hd
  obtain ⟨F, hF⟩ : ∃ F : Nat → Int, F = fun j => p.getD j 0 := ⟨_, rfl⟩
  have HFv := Lib.hid (fun j => (show F j = p.getD j 0 by rw [hF]))
  have Htab := Lib.hid (show tab la F = p by rw [hF, ← h.length]; exact tab_self p)
  clear hF h hd
  go_enter Tryz.func8, Tryz.ntmps8
  go_wp2
  go_loopw [3, 4] (fun s3 s4 wr => ∃ k : Nat, k ≤ la ∧ s4 = .int .i64 (k : Int) ∧ OwnZ wr w.heap.size s3 ((tab la F).take k) ∧ Below w.heap.size w wr) (fun _ s4 _ => la - (intOf s4).toNat)
  case atStart => exact ⟨0, Nat.zero_le _, rfl, OwnZ.nil _ _, Below.refl _ _⟩
  case round =>
    obtain ⟨k, hk, rfl, hown, hbw⟩ := hrel
    have hbs := hbw.size
    have Hown := Lib.hid hown
    have Hbw := Lib.hid hbw
    clear hown
    by_cases hlt : k < la
    · obtain ⟨c1, o1, rfl, hb1, hc1⟩ := HP.out.get (by omega)
      obtain ⟨neg, A1, l1, d1, e0, e1, hz1⟩ := hc1 k hlt
      have e0 := (hbw.cell (p := ⟨c1, o1 + k * 2, none⟩) hb1).trans e0
      have e1 := (hbw.cell (p := ⟨c1, o1 + k * 2 + 1, none⟩) hb1).trans e1
      have Z1 := Lib.hid (hz1.below hbw)
      have t1 : (k : Int) < (la : Int) := by omega
      have Hl1 := Lib.hid (show l1 ≤ 30000 by have := hz1.nat.short; have := Hd.out k; omega)
      clear hc1 hz1 hbw
      go_wp2_with fail
      refine wp_region_last (S := fun w' => w'.cell? ⟨c1, o1 + k * 2, none⟩ = some (.bool neg) ∧ w'.cell? ⟨c1, o1 + k * 2 + 1, none⟩ = some (.slice A1 l1 d1)) (by kernel_rfl) (by kernel_rfl) (by (try dsimp only); go_keep) (fun hHeld => ?_)
      simp only [List.pop_toArray, List.dropLast]
      (refine take_at (i := 0) (oi := _) (v := ?_) rfl rfl (by kernel_rfl) (by kernel_rfl) (by kernel_rfl) (fun _ _ _ h => h) (Or.inl ⟨by rfl, ?_⟩) (by assumption) ?_; rotate_left; (focus (intro w hSw; (try dsimp only at hSw); go_simp; (try with_reducible rfl))); (simp only [put_lit, List.set]))
      (refine take_at (i := 1) (oi := _) (v := ?_) rfl rfl (by kernel_rfl) (by kernel_rfl) (by kernel_rfl) (fun _ _ _ h => h) (Or.inl ⟨by rfl, ?_⟩) (by assumption) ?_; rotate_left; (focus (intro w hSw; (try dsimp only at hSw); go_simp; (try with_reducible rfl))); (simp only [put_lit, List.set]))
      (refine take_at (i := 2) (oi := _) (v := ?_) rfl rfl (by kernel_rfl) (by kernel_rfl) (by kernel_rfl) (fun _ _ _ h => h) (Or.inl ⟨by rfl, ?_⟩) (by assumption) ?_; rotate_left; (focus (intro w hSw; (try dsimp only at hSw); go_simp; (try with_reducible rfl))); (simp only [put_lit, List.set]))
      (refine take_at (i := 3) (oi := _) (v := ?_) rfl rfl (by kernel_rfl) (by kernel_rfl) (by kernel_rfl) (fun _ _ _ h => h) (Or.inl ⟨by rfl, ?_⟩) (by assumption) ?_; rotate_left; (focus (intro w hSw; (try dsimp only at hSw); go_simp; (try with_reducible rfl))); (simp only [put_lit, List.set]))
      (refine take_at (i := 4) (oi := _) (v := ?_) rfl rfl (by kernel_rfl) (by kernel_rfl) (by kernel_rfl) (fun _ _ _ h => h) (Or.inl ⟨by rfl, ?_⟩) (by assumption) ?_; rotate_left; (focus (intro w hSw; (try dsimp only at hSw); go_simp; (try with_reducible rfl))); (simp only [put_lit, List.set]))
      (refine take_at (i := 5) (oi := _) (v := ?_) rfl rfl (by kernel_rfl) (by kernel_rfl) (by kernel_rfl) (fun _ _ _ h => h) (Or.inl ⟨by rfl, ?_⟩) (by assumption) ?_; rotate_left; (focus (intro w hSw; (try dsimp only at hSw); go_simp; (try with_reducible rfl))); (simp only [put_lit, List.set]))
      (refine take_at (i := 6) (oi := _) (v := ?_) rfl rfl (by kernel_rfl) (by kernel_rfl) (by kernel_rfl) (fun _ _ _ h => h) (Or.inl ⟨by rfl, ?_⟩) (by assumption) ?_; rotate_left; (focus (intro w hSw; (try dsimp only at hSw); go_simp; (try with_reducible rfl))); (simp only [put_lit, List.set]))
      (refine take_at (i := 7) (oi := _) (v := ?_) rfl rfl (by kernel_rfl) (by kernel_rfl) (by kernel_rfl) (fun _ _ _ h => h) (Or.inl ⟨by rfl, ?_⟩) (by assumption) ?_; rotate_left; (focus (intro w hSw; (try dsimp only at hSw); go_simp; (try with_reducible rfl))); (simp only [put_lit, List.set]))
      (refine take_at (i := 8) (oi := _) (v := ?_) rfl rfl (by kernel_rfl) (by kernel_rfl) (by kernel_rfl) (fun _ _ _ h => h) (Or.inl ⟨by rfl, ?_⟩) (by assumption) ?_; rotate_left; (focus (intro w hSw; (try dsimp only at hSw); go_simp; (try with_reducible rfl))); (simp only [put_lit, List.set]))
      (refine take_at (i := 9) (oi := _) (v := ?_) rfl rfl (by kernel_rfl) (by kernel_rfl) (by kernel_rfl) (fun _ _ _ h => h) (Or.inl ⟨by rfl, ?_⟩) (by assumption) ?_; rotate_left; (focus (intro w hSw; (try dsimp only at hSw); go_simp; (try with_reducible rfl))); (simp only [put_lit, List.set]))
      (refine take_at (i := 10) (oi := _) (v := ?_) rfl rfl (by kernel_rfl) (by kernel_rfl) (by kernel_rfl) (fun _ _ _ h => h) (Or.inl ⟨by rfl, ?_⟩) (by assumption) ?_; rotate_left; (focus (intro w hSw; (try dsimp only at hSw); go_simp; (try with_reducible rfl))); (simp only [put_lit, List.set]))
      refine wpAnyH_ready (rs := [11]) (by kernel_rfl) (by simp) ?_
      refine AllReadyH.cons rfl (fun K hK => ?_) AllReadyH.nil; go_simp
      refine (zof_any _ _ _ _ (p.getD k 0) _ (Z1.out.below (by (repeat (first | exact Below.refl _ _ | refine Below.drew ?_ | refine Below.alloc ?_ (by first | (simp; done) | (simp; omega) | omega) _ | refine Below.setCell ?_ (by first | (simp; done) | (simp; omega) | omega) _)))) Hl1.out).mono ?_
      rintro e w3 ⟨s3, A3, l3, c3, rfl, h3, hb3⟩
      rw [← HFv.out k] at h3
      obtain ⟨hcx, hfx⟩ := bcellS hb3
      have hb4 : Below wr.heap.size wr w3 := Below.trans (by (repeat (first | exact Below.refl _ _ | refine Below.drew ?_ | refine Below.alloc ?_ (by first | (simp; done) | (simp; omega) | omega) _ | refine Below.setCell ?_ (by first | (simp; done) | (simp; omega) | omega) _))) (hb3.mono (by simp <;> omega))
      have H3 := Lib.hid h3
      have Ho3 := Lib.hid (Hown.out.below hb4)
      have Hb4 := Lib.hid (Hbw.out.trans (hb4.mono hbs))
      have hs3 := hb4.size
      refine hK.out _ _ ?_ (fun _ => ?_)
      · ((try dsimp only); repeat' apply And.intro) <;> (rw [hcx _ (by go_simp)]; go_simp)
      clear hHeld hK K hcx hfx; rename_i hHeld
      clear h3 hb3 hb4
      refine wpAnyH_ready (rs := [12]) (by kernel_rfl) (by simp) ?_
      refine AllReadyH.cons rfl (fun K hK => ?_) AllReadyH.nil; go_simp
      refine hK.out _ _ ?_ (fun _ => ?_)
      · (try dsimp only); go_keep
      clear hHeld hK K
      rename_i hHeld
      (try (simp only [put_lit, List.set]))
      refine wpAnyH_ready (rs := [13]) (by kernel_rfl) (by simp) ?_
      refine AllReadyH.cons rfl (fun K hK => ?_) AllReadyH.nil
      rw [if_pos (by rfl)]
      refine oper_append_z (.tmp 11) (.tmp 23) rfl w.heap.size _ ((tab la F).take k) rfl Ho3.out s3 A3 l3 c3 (F k) rfl H3.out (by rw [take_tab_len la F hk]; omega) (by omega) ?_
      intro v' w4 ho4 hb5
      rw [take_tab la F hlt] at ho4
      have Ho4 := Lib.hid ho4
      have hb6 := hb5 _ Hb4.out
      have Hb5 := Lib.hid hb6
      have cc : ∀ b o, b < w.heap.size → w4.cell? ⟨b, o, none⟩ = wr.cell? ⟨b, o, none⟩ := fun b o h => (hb6.cell (p := ⟨b, o, none⟩) h).trans (Hbw.out.cell (p := ⟨b, o, none⟩) h).symm
      refine hK.out _ _ ?_ (fun _ => ?_)
      · refine ⟨?_, ?_⟩ <;> (rw [cc _ _ (by omega)]; assumption)
      clear hHeld hK K ho4 hb5 hb6 cc
      rename_i hHeld
      (try (simp only [put_lit, List.set]))
      refine wpAnyH_done (by kernel_rfl) (lastQ_list rfl ?_) _
      clear hHeld
      go_wp2_with fail
      go_roundw
      case rel => exact ⟨k + 1, by omega, by go_num, Ho4.out, Hb5.out⟩
      case measure => simp [intOf]; omega
    · have hkM : k = la := by omega
      have t1 : ¬ (k : Int) < (la : Int) := by omega
      obtain ⟨A', cap', hv, hzp, hsm⟩ := Hown.out.zp
      have hpl0 := plen_le p
      rw [hkM, take_tab_all, tab_length] at hv hzp hsm
      rw [Htab.out] at hzp
      subst hv
      have Hzp := Lib.hid hzp
      have hpl : plen p ≤ la := by have := hzp.length; omega
      have Hsm := Lib.hid (show 0 < la → ∃ b off, A' = some ⟨b, off, none⟩ from fun h => by
        obtain ⟨g, hg, _⟩ := hsm h
        exact ⟨g, 0, hg⟩)
      clear hzp hsm hkM hbw hpl0
      go_wp2_with fail
      refine (ztrim_any _ _ _ _ _ Hzp.out (by omega)).mono ?_
      rintro e w2 ⟨rfl, rfl⟩
      have Hfin := Lib.hid (Hzp.out.take hpl)
      go_wp2
      go_ret
      exact ⟨_, _, _, rfl, Hfin.out, Hsm.out, Hbw.out⟩

set_option maxRecDepth 100000 in
set_option maxHeartbeats 4000000 in
theorem lis_any (A : Option Addr) (la ca : Nat) (p : List Int) (B : Option Addr) (lb cb : Nat) (w : World) (h : PolyN w A la ca p) (hz : ZP w B lb cb p) (hla : la ≤ 1000) (bp : ZB 1000000 p) :
    Calls Tryz.prog 11 #[.slice A la ca, .slice B lb cb] w fun e w' => e = .returned (.bool true) ∧ Below w.heap.size w w' := by
  have hlb : lb = la := by rw [← hz.length, ← h.length]
  subst hlb
  have HP := Lib.hid h
  have HZ := Lib.hid hz
  have Bp := Lib.hid bp
  clear h hz bp
  go_enter Tryz.func11, Tryz.ntmps11
  go_wp2
  go_loopw [5] (fun s5 wr => ∃ k : Nat, k ≤ lb ∧ s5 = .int .i64 (k : Int) ∧ Below w.heap.size w wr) (fun s5 _ => lb - (intOf s5).toNat)
  case atStart => exact ⟨0, Nat.zero_le _, rfl, Below.refl _ _⟩
  case round =>
    obtain ⟨k, hk, rfl, hbw⟩ := hrel
    have hbs := hbw.size
    have Hbw := Lib.hid hbw
    by_cases hlt : k < lb
    · obtain ⟨c1, o1, rfl, hb1, hc1⟩ := HP.out.get (by omega)
      obtain ⟨neg, A1, l1, d1, e0, e1, hz1⟩ := hc1 k hlt
      obtain ⟨c2, o2, rfl, hb2, hc2⟩ := HZ.out.at_ (by omega)
      obtain ⟨s2, A2, l2, d2, e2, e3, hz2⟩ := hc2 k hlt
      have e0 := (hbw.cell (p := ⟨c1, o1 + k * 2, none⟩) hb1).trans e0
      have e1 := (hbw.cell (p := ⟨c1, o1 + k * 2 + 1, none⟩) hb1).trans e1
      have e2 := (hbw.cell (p := ⟨c2, o2 + k * 2, none⟩) hb2).trans e2
      have e3 := (hbw.cell (p := ⟨c2, o2 + k * 2 + 1, none⟩) hb2).trans e3
      have Z1 := Lib.hid (hz1.below hbw)
      have Z2 := Lib.hid (hz2.below hbw)
      have t1 : (k : Int) < (lb : Int) := by omega
      clear hc1 hz1 hc2 hz2 hbw
      go_wp2_with fail
      refine wp_region_held_drew (S := fun w' => w'.cell? ⟨c1, o1 + k * 2, none⟩ = some (.bool neg) ∧ w'.cell? ⟨c1, o1 + k * 2 + 1, none⟩ = some (.slice A1 l1 d1) ∧ w'.cell? ⟨c2, o2 + k * 2, none⟩ = some (.int .i64 s2) ∧ w'.cell? ⟨c2, o2 + k * 2 + 1, none⟩ = some (.slice A2 l2 d2)) (by kernel_rfl) (by (try dsimp only); go_keep) (fun hHeld => ?_)
      (refine take_at (i := 0) (oi := _) (v := ?_) rfl rfl (by kernel_rfl) (by kernel_rfl) (by kernel_rfl) (fun _ _ _ h => h) (Or.inl ⟨by rfl, ?_⟩) (by assumption) ?_; rotate_left; (focus (intro w hSw; (try dsimp only at hSw); go_simp; (try with_reducible rfl))); (simp only [put_lit, List.set]))
      (refine take_at (i := 1) (oi := _) (v := ?_) rfl rfl (by kernel_rfl) (by kernel_rfl) (by kernel_rfl) (fun _ _ _ h => h) (Or.inl ⟨by rfl, ?_⟩) (by assumption) ?_; rotate_left; (focus (intro w hSw; (try dsimp only at hSw); go_simp; (try with_reducible rfl))); (simp only [put_lit, List.set]))
      (refine take_at (i := 2) (oi := _) (v := ?_) rfl rfl (by kernel_rfl) (by kernel_rfl) (by kernel_rfl) (fun _ _ _ h => h) (Or.inl ⟨by rfl, ?_⟩) (by assumption) ?_; rotate_left; (focus (intro w hSw; (try dsimp only at hSw); go_simp; (try with_reducible rfl))); (simp only [put_lit, List.set]))
      (refine take_at (i := 3) (oi := _) (v := ?_) rfl rfl (by kernel_rfl) (by kernel_rfl) (by kernel_rfl) (fun _ _ _ h => h) (Or.inl ⟨by rfl, ?_⟩) (by assumption) ?_; rotate_left; (focus (intro w hSw; (try dsimp only at hSw); go_simp; (try with_reducible rfl))); (simp only [put_lit, List.set]))
      (refine take_at (i := 4) (oi := _) (v := ?_) rfl rfl (by kernel_rfl) (by kernel_rfl) (by kernel_rfl) (fun _ _ _ h => h) (Or.inl ⟨by rfl, ?_⟩) (by assumption) ?_; rotate_left; (focus (intro w hSw; (try dsimp only at hSw); go_simp; (try with_reducible rfl))); (simp only [put_lit, List.set]))
      (refine take_at (i := 5) (oi := _) (v := ?_) rfl rfl (by kernel_rfl) (by kernel_rfl) (by kernel_rfl) (fun _ _ _ h => h) (Or.inl ⟨by rfl, ?_⟩) (by assumption) ?_; rotate_left; (focus (intro w hSw; (try dsimp only at hSw); go_simp; (try with_reducible rfl))); (simp only [put_lit, List.set]))
      (refine take_at (i := 6) (oi := _) (v := ?_) rfl rfl (by kernel_rfl) (by kernel_rfl) (by kernel_rfl) (fun _ _ _ h => h) (Or.inl ⟨by rfl, ?_⟩) (by assumption) ?_; rotate_left; (focus (intro w hSw; (try dsimp only at hSw); go_simp; (try with_reducible rfl))); (simp only [put_lit, List.set]))
      (refine take_at (i := 7) (oi := _) (v := ?_) rfl rfl (by kernel_rfl) (by kernel_rfl) (by kernel_rfl) (fun _ _ _ h => h) (Or.inl ⟨by rfl, ?_⟩) (by assumption) ?_; rotate_left; (focus (intro w hSw; (try dsimp only at hSw); go_simp; (try with_reducible rfl))); (simp only [put_lit, List.set]))
      (refine take_at (i := 8) (oi := _) (v := ?_) rfl rfl (by kernel_rfl) (by kernel_rfl) (by kernel_rfl) (fun _ _ _ h => h) (Or.inl ⟨by rfl, ?_⟩) (by assumption) ?_; rotate_left; (focus (intro w hSw; (try dsimp only at hSw); go_simp; (try with_reducible rfl))); (simp only [put_lit, List.set]))
      (refine take_at (i := 9) (oi := _) (v := ?_) rfl rfl (by kernel_rfl) (by kernel_rfl) (by kernel_rfl) (fun _ _ _ h => h) (Or.inl ⟨by rfl, ?_⟩) (by assumption) ?_; rotate_left; (focus (intro w hSw; (try dsimp only at hSw); go_simp; (try with_reducible rfl))); (simp only [put_lit, List.set]))
      (refine take_at (i := 10) (oi := _) (v := ?_) rfl rfl (by kernel_rfl) (by kernel_rfl) (by kernel_rfl) (fun _ _ _ h => h) (Or.inl ⟨by rfl, ?_⟩) (by assumption) ?_; rotate_left; (focus (intro w hSw; (try dsimp only at hSw); go_simp; (try with_reducible rfl))); (simp only [put_lit, List.set]))
      (refine take_at (i := 11) (oi := _) (v := ?_) rfl rfl (by kernel_rfl) (by kernel_rfl) (by kernel_rfl) (fun _ _ _ h => h) (Or.inl ⟨by rfl, ?_⟩) (by assumption) ?_; rotate_left; (focus (intro w hSw; (try dsimp only at hSw); go_simp; (try with_reducible rfl))); (simp only [put_lit, List.set]))
      (refine take_at (i := 12) (oi := _) (v := ?_) rfl rfl (by kernel_rfl) (by kernel_rfl) (by kernel_rfl) (fun _ _ _ h => h) (Or.inl ⟨by rfl, ?_⟩) (by assumption) ?_; rotate_left; (focus (intro w hSw; (try dsimp only at hSw); go_simp; (try with_reducible rfl))); (simp only [put_lit, List.set]))
      (refine take_at (i := 13) (oi := _) (v := ?_) rfl rfl (by kernel_rfl) (by kernel_rfl) (by kernel_rfl) (fun _ _ _ h => h) (Or.inl ⟨by rfl, ?_⟩) (by assumption) ?_; rotate_left; (focus (intro w hSw; (try dsimp only at hSw); go_simp; (try with_reducible rfl))); (simp only [put_lit, List.set]))
      refine wpAnyH_ready (rs := [14]) (by kernel_rfl) (by simp) ?_
      refine AllReadyH.cons rfl (fun K hK => ?_) AllReadyH.nil; go_simp
      refine (zis_any _ _ _ _ (p.getD k 0) _ _ _ _ _ (Z1.out.below (by (repeat (first | exact Below.refl _ _ | refine Below.drew ?_ | refine Below.alloc ?_ (by first | (simp; done) | (simp; omega) | omega) _ | refine Below.setCell ?_ (by first | (simp; done) | (simp; omega) | omega) _)))) (Z2.out.below (by (repeat (first | exact Below.refl _ _ | refine Below.drew ?_ | refine Below.alloc ?_ (by first | (simp; done) | (simp; omega) | omega) _ | refine Below.setCell ?_ (by first | (simp; done) | (simp; omega) | omega) _)))) (by rw [Z2.out.len]; exact Bp.out k)).mono ?_
      rintro e w3 ⟨rfl, hb3⟩
      obtain ⟨hcx, hfx⟩ := bcellS hb3
      have hb4 : Below wr.heap.size wr w3 := Below.trans (by (repeat (first | exact Below.refl _ _ | refine Below.drew ?_ | refine Below.alloc ?_ (by first | (simp; done) | (simp; omega) | omega) _ | refine Below.setCell ?_ (by first | (simp; done) | (simp; omega) | omega) _))) (hb3.mono (by simp <;> omega))
      have Hb4 := Lib.hid (Hbw.out.trans (hb4.mono hbs))
      refine hK.out _ _ ?_ (fun _ => ?_)
      · ((try dsimp only); repeat' apply And.intro) <;> (rw [hcx _ (by go_simp)]; go_simp)
      clear hHeld hK K hcx hfx; rename_i hHeld
      clear hb3 hb4
      (refine take_at (i := 15) (oi := _) (v := ?_) rfl rfl (by kernel_rfl) (by kernel_rfl) (by kernel_rfl) (fun _ _ _ h => h) (Or.inl ⟨by rfl, ?_⟩) (by assumption) ?_; rotate_left; (focus (intro w hSw; (try dsimp only at hSw); go_simp; (try with_reducible rfl))); (simp only [put_lit, List.set]))
      refine wpAnyH_done (by kernel_rfl) ?_ _
      clear hHeld
      go_wp2_with fail
      go_roundw
      case rel => exact ⟨k + 1, by omega, by go_num, Hb4.out⟩
      case measure => simp [intOf]; omega
    · have hkM : k = lb := by omega
      subst hkM
      have t1 : ¬ (k : Int) < (k : Int) := by omega
      clear hbw
      go_wp2
      go_ret
      exact ⟨rfl, Hbw.out⟩
end Go.Proofs.YtgblfpkfapmlnaaGreat
