/- The walks of cylinderref09.Content and Over. -/
import Derived.Test.YtgblfpkfapmlnaaGreatZgc
import Derived.Test.YtgblfpkfapmlnaaGreatBto
import Derived.Test.YtgblfpkfapmlnaaGreatGti
namespace Go.Proofs.YtgblfpkfapmlnaaGreat
open Go Go.RowKit

theorem pcont_snoc (f : List Int) {k : Nat} (h : k < f.length) : pcont (f.take (k + 1)) = Nat.gcd (pcont (f.take k)) (f.getD k 0).natAbs := by
  have key : ∀ (l : List Int) (c : Int), pcont (l ++ [c]) = Nat.gcd (pcont l) c.natAbs := by
    intro l c
    induction l with
    | nil => show Nat.gcd c.natAbs 0 = Nat.gcd 0 c.natAbs; rw [Nat.gcd_zero_left, Nat.gcd_zero_right]
    | cons d l ih => show Nat.gcd d.natAbs (pcont (l ++ [c])) = Nat.gcd (Nat.gcd d.natAbs (pcont l)) c.natAbs; rw [ih, Nat.gcd_assoc]
  rw [List.take_succ_eq_append_getElem h, key, List.getD_eq_getElem?_getD, List.getElem?_eq_getElem h]; rfl
theorem pcont_take_bln {f : List Int} {B : Nat} (hb : ZB B f) (k : Nat) : bln (pcont (f.take k)) ≤ B := by
  by_cases h : plen (f.take k) = 0
  · rw [pcont_zero h]; exact Nat.zero_le _
  · have h1 := pcont_get (f.take k) (plen (f.take k) - 1)
    have h2 : (f.take k).getD (plen (f.take k) - 1) 0 ≠ 0 := plead_ne h
    have h3 := Nat.le_of_dvd (Int.natAbs_pos.2 h2) h1
    refine Nat.le_trans (bln_mono h3) ?_
    have h4 : (f.take k).getD (plen (f.take k) - 1) 0 = f.getD (plen (f.take k) - 1) 0 := by
      have := plen_le (f.take k)
      rw [List.length_take] at this
      exact take_getD' f (by omega)
    rw [h4]
    exact hb _

set_option maxRecDepth 100000 in
set_option maxHeartbeats 4000000 in
theorem zcontent_any (A : Option Addr) (la ca : Nat) (f : List Int) (w : World) (hf : ZP w A la ca f) (hla : la ≤ 1000) (bf : ZB 400000 f) :
    Calls Tryz.prog 54 #[.slice A la ca] w (ZRet w (pcont f : Nat)) := by
  have hb0 : Below w.heap.size w (w.alloc (zbox 0 none 0 0)) := (Below.refl _ _).alloc (Nat.le_refl _) _
  have hR := ZBox.nil w
  have HR := Lib.hid (hR.move (w' := (w.alloc (zbox 0 none 0 0)).alloc (zbox 0 none 0 0)) (by (repeat (first | exact Below.refl _ _ | refine Below.drew ?_ | refine Below.alloc ?_ (by first | (simp; done) | (simp; omega) | omega) _ | refine Below.setCell ?_ (by first | (simp; done) | (simp; omega) | omega) _))))
  have hX := ZBox.nil (w.alloc (zbox 0 none 0 0))
  simp only [World.size_alloc] at hX
  have HX := Lib.hid hX
  have HF := Lib.hid hf
  have hfl := hf.length
  have Bf := Lib.hid bf
  clear hb0 hR hX hf bf
  go_enter Tryz.func54, Tryz.ntmps54
  go_wp2
  go_loopw [4] (fun s4 wr => ∃ (k : Nat) (s : Int) (A' : Option Addr) (l c : Nat), k ≤ la ∧ s4 = .int .i64 (k : Int) ∧ ZBox wr (w.heap.size + 1) s A' l c ((pcont (f.take k) : Nat) : Int) ∧ ZBox wr w.heap.size 0 none 0 0 0 ∧ Below w.heap.size w wr) (fun s4 _ => la - (intOf s4).toNat)
  case atStart => exact ⟨0, _, _, _, _, Nat.zero_le _, rfl, HX.out, HR.out, (by (repeat (first | exact Below.refl _ _ | refine Below.drew ?_ | refine Below.alloc ?_ (by first | (simp; done) | (simp; omega) | omega) _ | refine Below.setCell ?_ (by first | (simp; done) | (simp; omega) | omega) _)))⟩
  case round =>
    clear HR HX
    obtain ⟨k, s, A', l, c, hk, rfl, hX, hR, hbw⟩ := hrel
    have hbs := hbw.size
    have x0 := hX.c0
    have x1 := hX.c1
    have HX := Lib.hid hX
    have HR := Lib.hid hR
    have Hbw := Lib.hid hbw
    by_cases hlt : k < la
    · obtain ⟨c1, o1, rfl, hb1, hc1⟩ := HF.out.at_ (by omega)
      obtain ⟨s1, A1, l1, d1, e0, e1, hz1⟩ := hc1 k hlt
      have e0 := (hbw.cell (p := ⟨c1, o1 + k * 2, none⟩) hb1).trans e0
      have e1 := (hbw.cell (p := ⟨c1, o1 + k * 2 + 1, none⟩) hb1).trans e1
      have Z1 := Lib.hid (hz1.below hbw)
      have t1 : (k : Int) < (la : Int) := by omega
      have Hl1 := Lib.hid (show l1 ≤ 800000 by have := hz1.len; have := Bf.out k; omega)
      have Hl2 := Lib.hid (show l ≤ 800000 by have := hX.hz.len; rw [Int.natAbs_natCast] at this; have := pcont_take_bln Bf.out k; omega)
      have Hn := Lib.hid (pcont_snoc f (k := k) (by omega))
      have nb : w.heap.size + 1 ≠ c1 := by omega
      clear hc1 hz1 hX hR hbw
      go_wp2_with fail
      refine wp_region_last (S := fun w' => (w'.cell? ⟨w.heap.size + 1, 0, none⟩ = some (.int .i64 s) ∧ w'.cell? ⟨w.heap.size + 1, 1, none⟩ = some (.slice A' l c)) ∧ w'.cell? ⟨c1, o1 + k * 2, none⟩ = some (.int .i64 s1) ∧ w'.cell? ⟨c1, o1 + k * 2 + 1, none⟩ = some (.slice A1 l1 d1)) (by kernel_rfl) (by kernel_rfl) (by (try dsimp only); go_keep) (fun hHeld => ?_)
      simp only [List.pop_toArray, List.dropLast]
      (refine take_at (i := 0) (oi := _) (v := ?_) rfl rfl (by kernel_rfl) (by kernel_rfl) (by kernel_rfl) (fun _ _ _ h => h) (Or.inl ⟨by rfl, ?_⟩) (by assumption) ?_; rotate_left; (focus (intro w hSw; (try dsimp only at hSw); go_simp; (try with_reducible rfl))); (simp only [put_lit, List.set]))
      (refine take_at (i := 1) (oi := _) (v := ?_) rfl rfl (by kernel_rfl) (by kernel_rfl) (by kernel_rfl) (fun _ _ _ h => h) (Or.inl ⟨by rfl, ?_⟩) (by assumption) ?_; rotate_left; (focus (intro w hSw; (try dsimp only at hSw); go_simp; (try with_reducible rfl))); (simp only [put_lit, List.set]))
      (refine take_at (i := 2) (oi := _) (v := ?_) rfl rfl (by kernel_rfl) (by kernel_rfl) (by kernel_rfl) (fun _ _ _ h => h) (Or.inl ⟨by rfl, ?_⟩) (by assumption) ?_; rotate_left; (focus (intro w hSw; (try dsimp only at hSw); go_simp; (try with_reducible rfl))); (simp only [put_lit, List.set]))
      (refine take_at (i := 3) (oi := _) (v := ?_) rfl rfl (by kernel_rfl) (by kernel_rfl) (by kernel_rfl) (fun _ _ _ h => h) (Or.inl ⟨by rfl, ?_⟩) (by assumption) ?_; rotate_left; (focus (intro w hSw; (try dsimp only at hSw); go_simp; (try with_reducible rfl))); (simp only [put_lit, List.set]))
      (refine take_at (i := 4) (oi := _) (v := ?_) rfl rfl (by kernel_rfl) (by kernel_rfl) (by kernel_rfl) (fun _ _ _ h => h) (Or.inl ⟨by rfl, ?_⟩) (by assumption) ?_; rotate_left; (focus (intro w hSw; (try dsimp only at hSw); go_simp; (try with_reducible rfl))); (simp only [put_lit, List.set]))
      refine wpAnyH_ready (rs := [5]) (by kernel_rfl) (by simp) ?_
      refine AllReadyH.cons rfl (fun K hK => ?_) AllReadyH.nil; go_simp
      refine (zgcd_any _ _ _ _ ((pcont (f.take k) : Nat) : Int) _ _ _ _ (f.getD k 0) _ (HX.out.hz.below (by (repeat (first | exact Below.refl _ _ | refine Below.drew ?_ | refine Below.alloc ?_ (by first | (simp; done) | (simp; omega) | omega) _ | refine Below.setCell ?_ (by first | (simp; done) | (simp; omega) | omega) _)))) (Z1.out.below (by (repeat (first | exact Below.refl _ _ | refine Below.drew ?_ | refine Below.alloc ?_ (by first | (simp; done) | (simp; omega) | omega) _ | refine Below.setCell ?_ (by first | (simp; done) | (simp; omega) | omega) _)))) Hl2.out Hl1.out).mono ?_
      rintro e w3 ⟨s3, A3, l3, c3, rfl, h3, hb3⟩
      rw [Int.natAbs_natCast, ← Hn.out] at h3
      obtain ⟨hcx, hfx⟩ := bcellS hb3
      have hb4 : Below wr.heap.size wr w3 := Below.trans (by (repeat (first | exact Below.refl _ _ | refine Below.drew ?_ | refine Below.alloc ?_ (by first | (simp; done) | (simp; omega) | omega) _ | refine Below.setCell ?_ (by first | (simp; done) | (simp; omega) | omega) _))) (hb3.mono (by simp <;> omega))
      have H3 := Lib.hid h3
      have HX3 := Lib.hid (HX.out.move hb4)
      have HR3 := Lib.hid (HR.out.move hb4)
      have Hb4 := Lib.hid (Hbw.out.trans (hb4.mono hbs))
      have hs3 := hb4.size
      refine hK.out _ _ ?_ (fun _ => ?_)
      · exact ⟨⟨(hcx _ (by go_simp)).trans (by go_simp), (hcx _ (by go_simp)).trans (by go_simp)⟩, (hcx _ (by go_simp)).trans (by go_simp), (hcx _ (by go_simp)).trans (by go_simp)⟩
      clear hHeld hK K hcx hfx; rename_i hHeld
      clear h3 hb3 hb4
      have k0 := HX3.out.c0
      have k1 := HX3.out.c1
      have k2 := HX3.out.f0
      have k3 := HX3.out.f1
      refine wpAnyH_done (by kernel_rfl) (lastQ_list rfl ?_) _
      clear hHeld
      go_wp2
      have lx := HX3.out.lt
      have X4 := HX3.out.put H3.out
      have R4 := HR3.out.far HX3.out (by omega) (.int .i64 s3) (.slice A3 l3 c3)
      have B4 := (Hb4.out.setCell (p := ⟨w.heap.size + 1, 0, none⟩) (by first | (simp; done) | (simp; omega) | omega) (.int .i64 s3)).setCell (p := ⟨w.heap.size + 1, 1, none⟩) (by first | (simp; done) | (simp; omega) | omega) (.slice A3 l3 c3)
      go_roundw
      case rel => exact ⟨k + 1, _, _, _, _, by omega, by go_num, X4, R4, B4⟩
      case measure => simp [intOf]; omega
    · have hkM : k = la := by omega
      have t1 : ¬ (k : Int) < (la : Int) := by omega
      have he : f.take k = f := List.take_of_length_le (by omega)
      have He := Lib.hid he
      have d0 := hR.c0
      have d1 := hR.c1
      have d2 := hR.f0
      have d3 := hR.f1
      clear he hkM hX hR hbw
      go_wp2
      refine bodyPost_ret (v := .agg #[.int .i64 s, .slice A' l c]) (by simp [results, Tryz.results54, go_sem, d0, d1]) rfl ⟨_, _, _, _, rfl, ?_, (Hbw.out.setCell (p := ⟨w.heap.size, 0, none⟩) (by first | (simp; done) | (simp; omega) | omega) _).setCell (p := ⟨w.heap.size, 1, none⟩) (by first | (simp; done) | (simp; omega) | omega) _⟩
      have := HX.out.hz
      rw [He.out] at this
      exact this.put HR.out _ _
end Go.Proofs.YtgblfpkfapmlnaaGreat
