/- The walks of cylinderref08.Scale, cylinderref09.Lead, Neg. -/
import Derived.Test.YtgblfpkfapmlnaaBtk
namespace Go.Proofs.Ytgblfpkfapmlnaa
open Go.RowKit

set_option maxRecDepth 100000 in
set_option maxHeartbeats 4000000 in
theorem zscale_any (A : Option Addr) (la ca : Nat) (f : List Int) (s : Int) (B : Option Addr) (lb cb : Nat) (c : Int) (w : World) (hf : ZP w A la ca f) (hc : ZAt w s B lb cb c) (hla : la ≤ 1000) (bf : ZB 400000 f) (bc : lb ≤ 400000) :
    Calls Try.prog 46 #[.slice A la ca, .agg #[.int .i64 s, .slice B lb cb]] w (PRet w (zsc f c) (0 < la)) := by
  have hb0 : Below w.heap.size w (w.alloc (zbox s B lb cb)) := (Below.refl _ _).alloc (Nat.le_refl _) _
  have HF := Lib.hid (hf.below hb0)
  have HC := Lib.hid (hc.below hb0)
  have HF0 := Lib.hid hf
  have Bf := Lib.hid bf
  have Hb0 := Lib.hid hb0
  have hWs : (w.alloc (zbox s B lb cb)).heap.size = w.heap.size + 1 := World.size_alloc _ _
  have HWs := Lib.hid hWs
  obtain ⟨F, hF⟩ : ∃ F : Nat → Int, F = fun j => f.getD j 0 * c := ⟨_, rfl⟩
  have HFv := Lib.hid (fun j => (show F j = f.getD j 0 * c by rw [hF]))
  have Hres := Lib.hid (show ptrim (tab la F) = zsc f c by unfold zsc; rw [hF, hf.length])
  have k0 : (w.alloc (zbox s B lb cb)).cell? ⟨w.heap.size, 0, none⟩ = some (.int .i64 s) := by go_simp
  have k1 : (w.alloc (zbox s B lb cb)).cell? ⟨w.heap.size, 1, none⟩ = some (.slice B lb cb) := by go_simp
  have K0 := Lib.hid k0
  have K1 := Lib.hid k1
  clear hF hf bf hb0 hc k0 k1 hWs
  go_enter Try.func46, Try.ntmps46
  go_wp2
  go_loopw [5, 6] (fun s5 s6 wr => ∃ k : Nat, k ≤ la ∧ s6 = .int .i64 (k : Int) ∧ OwnZ wr (w.heap.size + 1) s5 ((tab la F).take k) ∧ Below (w.heap.size + 1) (w.alloc (zbox s B lb cb)) wr) (fun _ s6 _ => la - (intOf s6).toNat)
  case atStart => exact ⟨0, Nat.zero_le _, rfl, OwnZ.nil _ _, Below.refl _ _⟩
  case round =>
    obtain ⟨k, hk, rfl, hown, hbw⟩ := hrel
    have hbs : w.heap.size + 1 ≤ wr.heap.size := by have := hbw.size; rw [HWs.out] at this; exact this
    have Hown := Lib.hid hown
    have Hbw := Lib.hid hbw
    clear hown
    by_cases hlt : k < la
    · obtain ⟨c1, o1, rfl, hb1, hc1⟩ := HF0.out.at_ (by omega)
      obtain ⟨c1', o1', hA', hb1', hc1'⟩ := HF.out.at_ (by omega)
      cases hA'
      obtain ⟨s1, A1, l1, d1, e0, e1, hz1⟩ := hc1' k hlt
      have e0 := (hbw.cell (p := ⟨c1, o1 + k * 2, none⟩) (by simp; omega)).trans e0
      have e1 := (hbw.cell (p := ⟨c1, o1 + k * 2 + 1, none⟩) (by simp; omega)).trans e1
      have e2 := (hbw.cell (p := ⟨w.heap.size, 0, none⟩) (by simp)).trans K0.out
      have e3 := (hbw.cell (p := ⟨w.heap.size, 1, none⟩) (by simp)).trans K1.out
      have hz2 := HC.out
      rw [← HWs.out] at hbw
      have Z1 := Lib.hid (hz1.below hbw)
      have Z2 := Lib.hid (hz2.below hbw)
      have t1 : (k : Int) < (la : Int) := by omega
      have Hl1 := Lib.hid (show l1 ≤ 400000 by rw [hz1.len]; exact Bf.out k)
      clear hc1 hc1' hz1 hz2 hbw
      go_wp2_with fail
      refine wp_region_last (S := fun w' => w'.cell? ⟨c1, o1 + k * 2, none⟩ = some (.int .i64 s1) ∧ w'.cell? ⟨c1, o1 + k * 2 + 1, none⟩ = some (.slice A1 l1 d1) ∧ w'.cell? ⟨w.heap.size, 0, none⟩ = some (.int .i64 s) ∧ w'.cell? ⟨w.heap.size, 1, none⟩ = some (.slice B lb cb)) (by kernel_rfl) (by kernel_rfl) (by (try dsimp only); go_keep) (fun hHeld => ?_)
      simp only [List.pop_toArray, List.dropLast]
      (refine take_at (i := 0) (oi := _) (v := ?_) rfl rfl (by kernel_rfl) (by kernel_rfl) (by kernel_rfl) (fun _ _ _ h => h) (Or.inl ⟨by rfl, ?_⟩) (by assumption) ?_; rotate_left; (focus (intro w hSw; (try dsimp only at hSw); go_simp; (try with_reducible rfl))); (simp only [put_lit, List.set]))
      (refine take_at (i := 1) (oi := _) (v := ?_) rfl rfl (by kernel_rfl) (by kernel_rfl) (by kernel_rfl) (fun _ _ _ h => h) (Or.inl ⟨by rfl, ?_⟩) (by assumption) ?_; rotate_left; (focus (intro w hSw; (try dsimp only at hSw); go_simp; (try with_reducible rfl))); (simp only [put_lit, List.set]))
      (refine take_at (i := 2) (oi := _) (v := ?_) rfl rfl (by kernel_rfl) (by kernel_rfl) (by kernel_rfl) (fun _ _ _ h => h) (Or.inl ⟨by rfl, ?_⟩) (by assumption) ?_; rotate_left; (focus (intro w hSw; (try dsimp only at hSw); go_simp; (try with_reducible rfl))); (simp only [put_lit, List.set]))
      (refine take_at (i := 3) (oi := _) (v := ?_) rfl rfl (by kernel_rfl) (by kernel_rfl) (by kernel_rfl) (fun _ _ _ h => h) (Or.inl ⟨by rfl, ?_⟩) (by assumption) ?_; rotate_left; (focus (intro w hSw; (try dsimp only at hSw); go_simp; (try with_reducible rfl))); (simp only [put_lit, List.set]))
      (refine take_at (i := 4) (oi := _) (v := ?_) rfl rfl (by kernel_rfl) (by kernel_rfl) (by kernel_rfl) (fun _ _ _ h => h) (Or.inl ⟨by rfl, ?_⟩) (by assumption) ?_; rotate_left; (focus (intro w hSw; (try dsimp only at hSw); go_simp; (try with_reducible rfl))); (simp only [put_lit, List.set]))
      (refine take_at (i := 5) (oi := _) (v := ?_) rfl rfl (by kernel_rfl) (by kernel_rfl) (by kernel_rfl) (fun _ _ _ h => h) (Or.inl ⟨by rfl, ?_⟩) (by assumption) ?_; rotate_left; (focus (intro w hSw; (try dsimp only at hSw); go_simp; (try with_reducible rfl))); (simp only [put_lit, List.set]))
      refine wpAnyH_ready (rs := [6]) (by kernel_rfl) (by simp) ?_
      refine AllReadyH.cons rfl (fun K hK => ?_) AllReadyH.nil; go_simp
      refine (zmul_any _ _ _ _ _ _ _ _ _ _ _ (Z1.out.below (by (repeat (first | exact Below.refl _ _ | refine Below.drew ?_ | refine Below.alloc ?_ (by first | (simp; done) | (simp; omega) | omega) _ | refine Below.setCell ?_ (by first | (simp; done) | (simp; omega) | omega) _)))) (Z2.out.below (by (repeat (first | exact Below.refl _ _ | refine Below.drew ?_ | refine Below.alloc ?_ (by first | (simp; done) | (simp; omega) | omega) _ | refine Below.setCell ?_ (by first | (simp; done) | (simp; omega) | omega) _)))) Hl1.out bc).mono ?_
      rintro e w3 ⟨s3, A3, l3, c3, rfl, h3, hb3⟩
      rw [← HFv.out k] at h3
      obtain ⟨hcx, hfx⟩ := bcellS hb3
      have hb4 : Below wr.heap.size wr w3 := Below.trans (by (repeat (first | exact Below.refl _ _ | refine Below.drew ?_ | refine Below.alloc ?_ (by first | (simp; done) | (simp; omega) | omega) _ | refine Below.setCell ?_ (by first | (simp; done) | (simp; omega) | omega) _))) (hb3.mono (by simp <;> omega))
      have H3 := Lib.hid h3
      have Ho3 := Lib.hid (Hown.out.below hb4)
      have Hb4 := Lib.hid (Hbw.out.trans (hb4.mono hbs))
      have hs3 := hb4.size
      refine hK.out _ _ ?_ (fun _ => ?_)
      · ((try dsimp only); repeat' apply And.intro) <;> (rw [hcx _ (by go_simp)]; go_simp)
      clear hHeld hK K hcx hfx; rename_i hHeld
      clear h3 hb3 hb4
      refine wpAnyH_ready (rs := [7]) (by kernel_rfl) (by simp) ?_
      refine AllReadyH.cons rfl (fun K hK => ?_) AllReadyH.nil; go_simp
      refine hK.out _ _ ?_ (fun _ => ?_)
      · (try dsimp only); go_keep
      clear hHeld hK K
      rename_i hHeld
      (try (simp only [put_lit, List.set]))
      refine wpAnyH_ready (rs := [8]) (by kernel_rfl) (by simp) ?_
      refine AllReadyH.cons rfl (fun K hK => ?_) AllReadyH.nil
      rw [if_pos (by rfl)]
      refine oper_append_z (.tmp 13) (.tmp 20) rfl (w.heap.size + 1) _ ((tab la F).take k) rfl Ho3.out s3 A3 l3 c3 (F k) rfl H3.out (by rw [take_tab_len la F hk]; omega) (by omega) ?_
      intro v' w4 ho4 hb5
      rw [take_tab la F hlt] at ho4
      have Ho4 := Lib.hid ho4
      have hb6 := hb5 _ Hb4.out
      have Hb5 := Lib.hid hb6
      have cc : ∀ b o, b < w.heap.size + 1 → w4.cell? ⟨b, o, none⟩ = wr.cell? ⟨b, o, none⟩ := fun b o h => (hb6.cell (p := ⟨b, o, none⟩) h).trans (Hbw.out.cell (p := ⟨b, o, none⟩) h).symm
      refine hK.out _ _ ?_ (fun _ => ?_)
      · refine ⟨?_, ?_, ?_, ?_⟩ <;> (rw [cc _ _ (by omega)]; assumption)
      clear hHeld hK K ho4 hb5 hb6 cc
      rename_i hHeld
      (try (simp only [put_lit, List.set]))
      refine wpAnyH_done (by kernel_rfl) (lastQ_list rfl ?_) _
      clear hHeld
      go_wp2_with fail
      go_roundw
      case rel => exact ⟨k + 1, by omega, by go_num, Ho4.out, Hb5.out⟩
      case measure => simp [intOf]; omega
    · have hkM : k = la := by omega
      have t1 : ¬ (k : Int) < (la : Int) := by omega
      obtain ⟨A', cap', hv, hzp, hsm⟩ := Hown.out.zp
      rw [hkM, take_tab_all, tab_length] at hv hzp hsm
      subst hv
      have Hzp := Lib.hid hzp
      have hpl : plen (tab la F) ≤ la := by have := plen_le (tab la F); rw [tab_length] at this; exact this
      have Hsm := Lib.hid (show 0 < la → ∃ b off, A' = some ⟨b, off, none⟩ from fun h => by
        obtain ⟨g, hg, _⟩ := hsm h
        exact ⟨g, 0, hg⟩)
      clear hzp hsm hkM hbw
      go_wp2_with fail
      refine (ztrim_any _ _ _ _ _ Hzp.out (by omega)).mono ?_
      rintro e w2 ⟨rfl, rfl⟩
      have Hfin := Lib.hid (Hzp.out.take hpl)
      go_wp2
      go_ret
      exact ⟨_, _, _, rfl, by rw [← Hres.out]; exact Hfin.out, Hsm.out, Hb0.out.trans (Hbw.out.mono (Nat.le_succ _))⟩

set_option maxRecDepth 100000 in
set_option maxHeartbeats 1000000 in
theorem zlead_any (A : Option Addr) (la ca : Nat) (f : List Int) (w : World) (hf : ZP w A la ca f) (hla : la ≤ 1000) (h0 : 0 < la) :
    Calls Try.prog 47 #[.slice A la ca] w (ZRet w (f.getD (la - 1) 0)) := by
  have hb0 : Below w.heap.size w (w.alloc (zbox 0 none 0 0)) := (Below.refl _ _).alloc (Nat.le_refl _) _
  obtain ⟨n, rfl⟩ : ∃ n, la = n + 1 := ⟨la - 1, by omega⟩
  rw [Nat.add_sub_cancel]
  obtain ⟨m, hm⟩ : ∃ m, m = n + 1 := ⟨_, rfl⟩
  rw [← hm] at hf hla ⊢
  have HF := Lib.hid (hf.below hb0)
  have Hb0 := Lib.hid hb0
  have i1 : (m : Int) - 1 = (n : Int) := by omega
  have i2 : IntKind.i64.wrap ((m : Int) - 1) = (n : Int) := by rw [IntWalk.i64_in _ (by omega)]; omega
  have i3 : IntKind.i64.wrap (n : Int) = (n : Int) := IntWalk.i64_in _ (by omega)
  have hn : n ≤ 1000 := by omega
  clear hf hb0 hm h0
  go_enter Try.func47, Try.ntmps47
  go_wp2_with fail
  refine (zat_any _ _ _ f n _ HF.out (by omega) (by omega)).mono ?_
  rintro e w2 ⟨s2, A2, l2, c2, rfl, h2, hb2⟩
  obtain ⟨hc, hf⟩ := bcell hb2
  have hsz := hb2.size
  simp only [World.size_alloc] at hsz
  have H2 := Lib.hid h2
  have Hb2 := Lib.hid hb2
  have Hc := Lib.hid hc
  clear h2 hb2
  go_wp2
  refine bodyPost_ret (v := .agg #[.int .i64 s2, .slice A2 l2 c2]) (by simp [results, Try.results47, go_sem, hc]) rfl ⟨_, _, _, _, rfl, H2.out.ret _ _ (A0 := none) (l0 := 0) (c0 := 0) ?_ ?_, ?_⟩
  · rw [Hc.out _ _ (by simp)]; go_simp
  · rw [Hc.out _ _ (by simp)]; go_simp
  · exact ((Hb0.out.trans (Hb2.out.mono Hb0.out.size)).setCell (Nat.le_refl _) _).setCell (Nat.le_refl _) _

set_option maxRecDepth 100000 in
set_option maxHeartbeats 1000000 in
theorem zneg_any (A : Option Addr) (la ca : Nat) (f : List Int) (w : World) (hf : ZP w A la ca f) (hla : la ≤ 1000) (bf : ZB 400000 f) :
    Calls Try.prog 49 #[.slice A la ca] w (PRet w (zsc f (-1)) (0 < la)) := by
  have HF := Lib.hid hf
  have Bf := Lib.hid bf
  clear hf bf
  go_enter Try.func49, Try.ntmps49
  go_wp2_with fail
  refine (zsmall_any (-1) _ (by decide)).mono ?_
  rintro e w1 ⟨s1, A1, l1, c1, rfl, h1, hb1⟩
  have H1 := Lib.hid h1
  have HF1 := Lib.hid (HF.out.below hb1)
  have Hb1 := Lib.hid hb1
  clear h1 hb1
  go_wp2_with fail
  refine (zscale_any _ _ _ f _ _ _ _ (-1) _ HF1.out H1.out hla Bf.out (by rw [H1.out.len]; decide)).mono ?_
  rintro e w2 ⟨A2, l2, c2, rfl, h2, hs2, hb2⟩
  have H2 := Lib.hid h2
  have Hs2 := Lib.hid hs2
  have Hb2 := Lib.hid (Hb1.out.trans (hb2.mono Hb1.out.size))
  clear h2 hb2 hs2
  go_wp2
  go_ret
  exact ⟨_, _, _, rfl, H2.out, Hs2.out, Hb2.out⟩
end Go.Proofs.Ytgblfpkfapmlnaa
