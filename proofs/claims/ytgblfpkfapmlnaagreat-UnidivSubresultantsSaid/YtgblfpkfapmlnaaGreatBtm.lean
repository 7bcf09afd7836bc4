/- The walk of cylinderref09.Pseudo. -/
import Derived.Test.YtgblfpkfapmlnaaGreatBto
namespace Go.Proofs.YtgblfpkfapmlnaaGreat
open Go.RowKit

/-- what the division of the reference returns -/
def RPost (w : World) (q r : List Int) (e : Ending) (w' : World) : Prop := ∃ A l c A' l' c', e = .returned (.tuple #[.slice A l c, .slice A' l' c']) ∧ ZP w' A l c q ∧ ZP w' A' l' c' r ∧ Below w.heap.size w w'
set_option maxRecDepth 100000 in
set_option maxHeartbeats 8000000 in
theorem rpseudo_any (A : Option Addr) (la ca : Nat) (f : List Int) (B : Option Addr) (lb cb : Nat) (g : List Int) (w : World) (hf : ZP w A la ca f) (hg : ZP w B lb cb g) (hla : la ≤ 20) (hlb : lb ≤ 20) (h0 : 0 < lb) {M E : Nat} (hM : M ≤ 2 ^ E) (hE : E ≤ 5000) (h1 : 1 ≤ M) (bf : Bd M f) (bg : Bd M g) :
    Calls Tryz.prog 18 #[.slice A la ca, .slice B lb cb] w (RPost w (rrun f g (lb - 1) (la - lb) (la + 1 - lb)).1 (rrun f g (lb - 1) (la - lb) (la + 1 - lb)).2) := by
  obtain ⟨d, hd⟩ : ∃ d, lb = d + 1 := ⟨lb - 1, by omega⟩
  have hfl := hf.length
  have hgl := hg.length
  obtain ⟨N, hN⟩ : ∃ N, N = la + 1 - lb := ⟨_, rfl⟩
  obtain ⟨X, hX⟩ : ∃ X : Int, X = (la : Int) - (lb : Int) := ⟨_, rfl⟩
  have hXb : -20 ≤ X ∧ X ≤ 20 := by omega
  have x1 : (la : Int) - (lb : Int) = X := hX.symm
  have x2 : IntKind.i64.wrap X = X := IntWalk.i64_in _ (by omega)
  have d1 : (lb : Int) - 1 = (d : Int) := by omega
  have d2 : IntKind.i64.wrap (d : Int) = (d : Int) := IntWalk.i64_in _ (by omega)
  rw [← hN, show lb - 1 = d by omega]
  obtain ⟨K, hK⟩ : ∃ K, K = la - lb := ⟨_, rfl⟩
  rw [← hK]
  have Hlen := Lib.hid (fun t (_ : 0 < N) => rrun_len f g d K (by omega) (by omega) t)
  have Hbd := Lib.hid (rrun_bd (d := d) (K := K) bg bf h1)
  have Hroom := Lib.hid (fun t (ht : t ≤ 21) => pow_room (t := t) hM hE ht)
  have Bg := Lib.hid (bg.zb (k := 400000) (by have := bln_pow hM; omega))
  have Bgd := Lib.hid bg
  have HF := Lib.hid hf
  have HG := Lib.hid hg
  have hNb : N ≤ 21 := by omega
  have HX := Lib.hid (And.intro hX (And.intro hN hK))
  have Hd := Lib.hid hd
  have hdb : d ≤ 20 := by omega
  have gl : g.length ≤ 20 := by omega
  clear hX hN hK hd hf hg bf bg hfl hgl h1
  go_enter Tryz.func18, Tryz.ntmps18
  go_wp2
  go_loopw [6, 7, 8] (fun s6 s7 s8 wr => ∃ (t : Nat) (x : Int) (Aq : Option Addr) (lq cq : Nat) (Ar : Option Addr) (lr cr : Nat), t ≤ N ∧ x = X - (t : Int) ∧ s8 = .int .i64 x ∧ s6 = .slice Aq lq cq ∧ s7 = .slice Ar lr cr ∧ ZP wr Aq lq cq (rrun f g d K t).1 ∧ ZP wr Ar lr cr (rrun f g d K t).2 ∧ Below w.heap.size w wr) (fun _ _ s8 _ => (intOf s8 + 1).toNat)
  case atStart => exact ⟨0, X, _, _, _, _, _, _, Nat.zero_le _, by omega, rfl, rfl, rfl, ZP.nil _ _ _, HF.out, Below.refl _ _⟩
  case round =>
    obtain ⟨t, x, Aq, lq, cq, Ar, lr, cr, ht, hx, rfl, rfl, rfl, hq, hr, hbw⟩ := hrel
    have Hq := Lib.hid hq
    have Hr := Lib.hid hr
    have Hbw := Lib.hid hbw
    by_cases hlt : t < N
    · obtain ⟨k, hk⟩ : ∃ k, k = K - t := ⟨_, rfl⟩
      have hxk : x = (k : Int) := by have := HX.out; omega
      have hkb : k ≤ 20 := by have := HX.out; omega
      have hl := Hlen.out t (by omega)
      have hlq : lq ≤ 21 := by have := hq.length; have := HX.out; omega
      have hlr : lr ≤ 41 := by have := hr.length; have := HX.out; omega
      have hb := Hbd.out t
      have hrm := Hroom.out t (by omega)
      obtain ⟨q, hqe⟩ : ∃ q, q = (rrun f g d K t).1 := ⟨_, rfl⟩
      obtain ⟨r, hre⟩ : ∃ r, r = (rrun f g d K t).2 := ⟨_, rfl⟩
      obtain ⟨lead, hlead⟩ : ∃ lead, lead = g.getD d 0 := ⟨_, rfl⟩
      obtain ⟨m, hm⟩ : ∃ m, m = d + k := ⟨_, rfl⟩
      obtain ⟨cz, hcz⟩ : ∃ cz, cz = r.getD m 0 := ⟨_, rfl⟩
      have hstep : rrun f g d K (t + 1) = (zps (zsc q lead) (zup (ptrim [cz]) k), zps (zsc r lead) (zsc (zup (zsc g cz) k) (-1))) := by
        rw [rrun]; unfold rstep
        rw [← hk, ← hqe, ← hre, ← hlead, ← hm, ← hcz]
      rw [← hqe, ← hre] at hb
      rw [← hqe] at Hq hq
      rw [← hre] at Hr hr
      have Hnq := Lib.hid (fun (W : World) (A : Option Addr) (l c : Nat) (h : ZP W A l c (zps (zsc q lead) (zup (ptrim [cz]) k))) => (show ZP W A l c (rrun f g d K (t + 1)).1 by rw [hstep]; exact h))
      have Hnr := Lib.hid (fun (W : World) (A : Option Addr) (l c : Nat) (h : ZP W A l c (zps (zsc r lead) (zsc (zup (zsc g cz) k) (-1)))) => (show ZP W A l c (rrun f g d K (t + 1)).2 by rw [hstep]; exact h))
      have bl : lead.natAbs ≤ M := by rw [hlead]; exact Bgd.out d
      have bc : cz.natAbs ≤ (2 * M) ^ t * M := by rw [hcz]; exact hb.2 m
      have Bq := Lib.hid (hb.1.zb (k := 400000) hrm.1)
      have Br := Lib.hid (hb.2.zb (k := 400000) hrm.1)
      have Lb := Lib.hid (show bln lead.natAbs ≤ 400000 by rw [hlead]; exact Bg.out d)
      have Cb := Lib.hid (show bln cz.natAbs ≤ 400000 by rw [hcz]; exact Br.out m)
      have up1 : ∀ {p : List Int}, (∀ j, (p.getD j 0).natAbs ≤ M * ((2 * M) ^ t * M)) → ZB 400000 p := fun h => Bd.zb (M := M * ((2 * M) ^ t * M)) h hrm.2
      have z3 : ∀ j, ((zup (zsc g cz) k).getD j 0).natAbs ≤ M * ((2 * M) ^ t * M) := fun j => by
        rw [zup_get]
        split
        · simp
        · rw [zsc_get, Int.natAbs_mul]; exact Nat.mul_le_mul (Bgd.out _) bc
      have Z1 := Lib.hid (show ZB 900000 (zsc q lead) from fun j => Nat.le_trans (up1 (p := zsc q lead) (fun j => by rw [zsc_get, Int.natAbs_mul, Nat.mul_comm]; exact Nat.mul_le_mul bl (hb.1 j)) j) (by decide))
      have Z2 := Lib.hid (show ZB 900000 (zup (ptrim [cz]) k) from fun j => Nat.le_trans (show bln ((zup (ptrim [cz]) k).getD j 0).natAbs ≤ 400000 by
        rw [zup_get]
        split
        · decide
        · rw [ptrim_getD]
          by_cases h : j - k = 0
          · rw [h]; exact Cb.out
          · rw [getD_out _ (by simp; omega)]; decide) (by decide))
      have Z3 := Lib.hid (up1 z3)
      have Z4 := Lib.hid (show ZB 900000 (zsc r lead) from fun j => Nat.le_trans (up1 (p := zsc r lead) (fun j => by rw [zsc_get, Int.natAbs_mul, Nat.mul_comm]; exact Nat.mul_le_mul bl (hb.2 j)) j) (by decide))
      have Z5 := Lib.hid (show ZB 900000 (zsc (zup (zsc g cz) k) (-1)) from fun j => Nat.le_trans (up1 (p := zsc (zup (zsc g cz) k) (-1)) (fun j => by rw [zsc_get, Int.natAbs_mul, show (-1 : Int).natAbs = 1 from rfl, Nat.mul_one]; exact z3 j) j) (by decide))
      have ql : q.length ≤ 21 := by rw [hqe]; have := HX.out; omega
      have rl : r.length ≤ 41 := by rw [hre]; have := HX.out; omega
      have HL := Lib.hid (show lead = g.getD (lb - 1) 0 by rw [hlead, show lb - 1 = d by have := Hd.out; omega])
      have Hcz := Lib.hid hcz
      have m1 : (d : Int) + (k : Int) = (m : Int) := by omega
      have m2 : IntKind.i64.wrap (m : Int) = (m : Int) := IntWalk.i64_in _ (by omega)
      have hmb : m ≤ 40 := by omega
      obtain ⟨x2, hx2⟩ : ∃ x2, x2 = (k : Int) - 1 := ⟨_, rfl⟩
      have m3 : IntKind.i64.wrap x2 = x2 := IntWalk.i64_in _ (by omega)
      have m4 : (k : Int) - 1 = x2 := hx2.symm
      have hx3 : x2 = X - ((t + 1 : Nat) : Int) := by omega
      have hx4 : -1 ≤ x2 ∧ x2 < (k : Int) := by omega
      have t0 : (0 : Int) ≤ (k : Int) := by omega
      subst hxk
      have HK := Lib.hid hk
      have HX3 := Lib.hid hx3
      have Hx := Lib.hid hx
      clear hq hr hbw hb hrm hl hqe hre hlead hm hcz hstep bl bc up1 z3 hx hx2 hx3 hk
      go_wp2_with fail
      refine (zat_any _ _ _ r m _ Hr.out (by omega) (by omega)).mono ?_
      rintro e w1 ⟨s1, A1, l1, c1, rfl, h1, hb1⟩
      rw [← Hcz.out] at h1
      have hba : Below wr.heap.size wr (w1.alloc (zbox s1 A1 l1 c1)) := hb1.alloc hb1.size _
      have hbz : Below w1.heap.size w1 (w1.alloc (zbox s1 A1 l1 c1)) := (Below.refl _ _).alloc (Nat.le_refl _) _
      have HC := Lib.hid (h1.below hbz)
      have HRb := Lib.hid (Hr.out.below hba)
      have HQb := Lib.hid (Hq.out.below hba)
      have HGb := Lib.hid ((HG.out.below Hbw.out).below hba)
      have Hbw1 := Lib.hid (Hbw.out.trans (hba.mono Hbw.out.size))
      have Hst := Lib.hid (Below.refl ((w1.alloc (zbox s1 A1 l1 c1))).heap.size (w1.alloc (zbox s1 A1 l1 c1)))
      have hsz1 := Hbw.out.size
      have hsz2 := hb1.size
      clear h1 hb1 hba hbz
      go_upto_region 7 with fail
      go_cut [6] (fun s6 wx => ∃ A5 l5 c5, s6 = .slice A5 l5 c5 ∧ ZP wx A5 l5 c5 (zps (zsc q lead) (zup (ptrim [cz]) k)) ∧ Below ((w1.alloc (zbox s1 A1 l1 c1))).heap.size (w1.alloc (zbox s1 A1 l1 c1)) wx)
      case first =>
        refine wp_region_last (S := (fun w' => w'.cell? ⟨w1.heap.size, 0, none⟩ = some (.int .i64 s1) ∧ w'.cell? ⟨w1.heap.size, 1, none⟩ = some (.slice A1 l1 c1))) (by kernel_rfl) (by kernel_rfl) (by (try dsimp only); go_keep) (fun hHeld => ?_)
        simp only [List.pop_toArray, List.dropLast]
        (refine take_at (i := 0) (oi := _) (v := ?_) rfl rfl (by kernel_rfl) (by kernel_rfl) (by kernel_rfl) (fun _ _ _ h => h) (Or.inl ⟨by rfl, ?_⟩) (by assumption) ?_; rotate_left; (focus (intro w hSw; (try dsimp only at hSw); go_simp; (try with_reducible rfl))); (simp only [put_lit, List.set]))
        (refine take_at (i := 1) (oi := _) (v := ?_) rfl rfl (by kernel_rfl) (by kernel_rfl) (by kernel_rfl) (fun _ _ _ h => h) (Or.inl ⟨by rfl, ?_⟩) (by assumption) ?_; rotate_left; (focus (intro w hSw; (try dsimp only at hSw); go_simp; (try with_reducible rfl))); (simp only [put_lit, List.set]))
        (refine take_at (i := 4) (oi := _) (v := ?_) rfl rfl (by kernel_rfl) (by kernel_rfl) (by kernel_rfl) (fun _ _ _ h => h) (Or.inl ⟨by rfl, ?_⟩) (by assumption) ?_; rotate_left; (focus (intro w hSw; (try dsimp only at hSw); go_simp; (try with_reducible rfl))); (simp only [put_lit, List.set]))
        (refine take_at (i := 7) (oi := _) (v := ?_) rfl rfl (by kernel_rfl) (by kernel_rfl) (by kernel_rfl) (fun _ _ _ h => h) (Or.inl ⟨by rfl, ?_⟩) (by assumption) ?_; rotate_left; (focus (intro w hSw; (try dsimp only at hSw); go_simp; (try with_reducible rfl))); (simp only [put_lit, List.set]))
        refine wpAnyH_ready (rs := [2, 5]) (by kernel_rfl) (by simp) ?_
        refine AllReadyH.cons rfl (fun K hK => ?_) (AllReadyH.cons rfl (fun K hK => ?_) AllReadyH.nil)
        · go_simp
          refine (zlead_any _ _ _ g _ ((HGb.out.below Hst.out).below (by (repeat (first | exact Below.refl _ _ | refine Below.drew ?_ | refine Below.alloc ?_ (by first | (simp; done) | (simp; omega) | omega) _ | refine Below.setCell ?_ (by first | (simp; done) | (simp; omega) | omega) _)))) (by omega) (by omega)).mono ?_
          rintro e w2 ⟨s2, A2, l2, c2, rfl, h2, hb2⟩
          rw [← HL.out] at h2
          obtain ⟨hcx, hfx⟩ := bcellS hb2
          have hbz : Below (w1.alloc (zbox s1 A1 l1 c1)).heap.size (w1.alloc (zbox s1 A1 l1 c1)) w2 := Below.trans (by (repeat (first | exact Below.refl _ _ | refine Below.drew ?_ | refine Below.alloc ?_ (by first | (simp; done) | (simp; omega) | omega) _ | refine Below.setCell ?_ (by first | (simp; done) | (simp; omega) | omega) _))) (hb2.mono (by simp <;> omega))

          replace Hst := Lib.hid (Hst.out.trans (hbz.mono Hst.out.size))
          have H2 := Lib.hid h2
          refine hK.out _ _ ?_ (fun _ => ?_)
          · ((try dsimp only); repeat' apply And.intro) <;> (rw [hcx _ (by go_simp)]; go_simp)
          clear hHeld hK K hcx hfx; rename_i hHeld
          have hs2 := hbz.size
          clear h2 hb2 hbz
          refine wpAnyH_ready (rs := [3, 5]) (by kernel_rfl) (by simp) ?_
          refine AllReadyH.cons rfl (fun K hK => ?_) (AllReadyH.cons rfl (fun K hK => ?_) AllReadyH.nil)
          · go_simp
            refine (zscale_any _ _ _ q _ _ _ _ lead _ ((HQb.out.below Hst.out).below (by (repeat (first | exact Below.refl _ _ | refine Below.drew ?_ | refine Below.alloc ?_ (by first | (simp; done) | (simp; omega) | omega) _ | refine Below.setCell ?_ (by first | (simp; done) | (simp; omega) | omega) _)))) (H2.out.below (by (repeat (first | exact Below.refl _ _ | refine Below.drew ?_ | refine Below.alloc ?_ (by first | (simp; done) | (simp; omega) | omega) _ | refine Below.setCell ?_ (by first | (simp; done) | (simp; omega) | omega) _)))) (by omega) Bq.out (by rw [H2.out.len]; exact Lb.out)).mono ?_
            rintro e w3 ⟨A3, l3, c3, rfl, h3, hx3, hb3⟩
            obtain ⟨hcx, hfx⟩ := bcellS hb3
            have hbz : Below w2.heap.size w2 w3 := Below.trans (by (repeat (first | exact Below.refl _ _ | refine Below.drew ?_ | refine Below.alloc ?_ (by first | (simp; done) | (simp; omega) | omega) _ | refine Below.setCell ?_ (by first | (simp; done) | (simp; omega) | omega) _))) (hb3.mono (by simp <;> omega))

            replace Hst := Lib.hid (Hst.out.trans (hbz.mono Hst.out.size))
            have H3 := Lib.hid h3
            have HX3 := Lib.hid hx3
            refine hK.out _ _ ?_ (fun _ => ?_)
            · ((try dsimp only); repeat' apply And.intro) <;> (rw [hcx _ (by go_simp)]; go_simp)
            clear hHeld hK K hcx hfx; rename_i hHeld
            have hs3 := hbz.size
            clear h3 hb3 hbz hx3
            refine wpAnyH_ready (rs := [5]) (by kernel_rfl) (by simp) ?_
            refine AllReadyH.cons rfl (fun K hK => ?_) AllReadyH.nil; go_simp
            refine hK.out _ _ ?_ (fun _ => ?_)
            · (try dsimp only); go_keep
            clear hHeld hK K
            rename_i hHeld
            (try (simp only [put_lit, List.set]))
            have hbz : Below w3.heap.size w3 (w3.alloc (zbox s1 A1 l1 c1)) := (by (repeat (first | exact Below.refl _ _ | refine Below.drew ?_ | refine Below.alloc ?_ (by first | (simp; done) | (simp; omega) | omega) _ | refine Below.setCell ?_ (by first | (simp; done) | (simp; omega) | omega) _)))
            replace H3 := Lib.hid (H3.out.below hbz)
            have Hone := Lib.hid (zp_one (HC.out.below Hst.out))
            (try simp only [World.size_alloc] at Hone)
            replace Hst := Lib.hid (Hst.out.trans (hbz.mono Hst.out.size))
            clear hbz
            refine wpAnyH_ready (rs := [6]) (by kernel_rfl) (by simp) ?_
            refine AllReadyH.cons rfl (fun K hK => ?_) AllReadyH.nil; go_simp
            refine (ztrim_any _ _ _ [cz] _ (Hone.out.below (by (repeat (first | exact Below.refl _ _ | refine Below.drew ?_ | refine Below.alloc ?_ (by first | (simp; done) | (simp; omega) | omega) _ | refine Below.setCell ?_ (by first | (simp; done) | (simp; omega) | omega) _)))) (by omega)).mono ?_
            rintro e wt ⟨rfl, rfl⟩
            refine hK.out _ _ ?_ (fun _ => ?_)
            · assumption
            clear hHeld hK K
            rename_i hHeld
            (try (simp only [put_lit, List.set]))
            refine wpAnyH_ready (rs := [8]) (by kernel_rfl) (by simp) ?_
            refine AllReadyH.cons rfl (fun K hK => ?_) AllReadyH.nil; go_simp
            refine (zup_any _ _ _ _ (ptrim [cz]) k _ ((Hone.out.take (plen_le [cz])).below (by (repeat (first | exact Below.refl _ _ | refine Below.drew ?_ | refine Below.alloc ?_ (by first | (simp; done) | (simp; omega) | omega) _ | refine Below.setCell ?_ (by first | (simp; done) | (simp; omega) | omega) _)))) (by have := plen_le [cz]; simp at this; omega) (by omega)).mono ?_
            rintro e w4 ⟨A4, l4, c4, rfl, h4, hx4, hb4⟩
            obtain ⟨hcx, hfx⟩ := bcellS hb4
            have hbz : Below (w3.alloc (zbox s1 A1 l1 c1)).heap.size (w3.alloc (zbox s1 A1 l1 c1)) w4 := Below.trans (by (repeat (first | exact Below.refl _ _ | refine Below.drew ?_ | refine Below.alloc ?_ (by first | (simp; done) | (simp; omega) | omega) _ | refine Below.setCell ?_ (by first | (simp; done) | (simp; omega) | omega) _))) (hb4.mono (by simp <;> omega))
            replace H3 := Lib.hid (H3.out.below hbz)
            replace Hst := Lib.hid (Hst.out.trans (hbz.mono Hst.out.size))
            have H4 := Lib.hid h4
            have hl4 := h4.length
            refine hK.out _ _ ?_ (fun _ => ?_)
            · ((try dsimp only); repeat' apply And.intro) <;> (rw [hcx _ (by go_simp)]; go_simp)
            clear hHeld hK K hcx hfx; rename_i hHeld
            have hs4 := hbz.size
            clear h4 hb4 hbz hx4
            refine wpAnyH_ready (rs := [9]) (by kernel_rfl) (by simp) ?_
            refine AllReadyH.cons rfl (fun K hK => ?_) AllReadyH.nil; go_simp
            refine (zpadd_any _ _ _ (zsc q lead) _ _ _ (zup (ptrim [cz]) k) _ (H3.out.below (by (repeat (first | exact Below.refl _ _ | refine Below.drew ?_ | refine Below.alloc ?_ (by first | (simp; done) | (simp; omega) | omega) _ | refine Below.setCell ?_ (by first | (simp; done) | (simp; omega) | omega) _)))) (H4.out.below (by (repeat (first | exact Below.refl _ _ | refine Below.drew ?_ | refine Below.alloc ?_ (by first | (simp; done) | (simp; omega) | omega) _ | refine Below.setCell ?_ (by first | (simp; done) | (simp; omega) | omega) _)))) (by have := H3.out.length; have := zsc_len q lead; omega) (by have := zup_len (ptrim [cz]) k; have := plen_le [cz]; rw [← ptrim_length] at this; simp at this; omega) Z1.out Z2.out).mono ?_
            rintro e w5 ⟨A5, l5, c5, rfl, h5, hx5, hb5⟩
            obtain ⟨hcx, hfx⟩ := bcellS hb5
            have hbz : Below w4.heap.size w4 w5 := Below.trans (by (repeat (first | exact Below.refl _ _ | refine Below.drew ?_ | refine Below.alloc ?_ (by first | (simp; done) | (simp; omega) | omega) _ | refine Below.setCell ?_ (by first | (simp; done) | (simp; omega) | omega) _))) (hb5.mono (by simp <;> omega))
            replace Hst := Lib.hid (Hst.out.trans (hbz.mono Hst.out.size))
            have H5 := Lib.hid h5
            refine hK.out _ _ ?_ (fun _ => ?_)
            · ((try dsimp only); repeat' apply And.intro) <;> (rw [hcx _ (by go_simp)]; go_simp)
            clear hHeld hK K hcx hfx; rename_i hHeld
            clear h5 hb5 hbz hx5
            refine wpAnyH_done (by kernel_rfl) (lastQ_list rfl ?_) _
            clear hHeld
            go_wp2_with fail
            go_meet
            exact ⟨_, _, _, rfl, H5.out, Hst.out⟩
          · go_simp
            refine hK.out _ _ ?_ (fun _ => ?_)
            · (try dsimp only); go_keep
            clear hHeld hK K
            rename_i hHeld
            (try (simp only [put_lit, List.set]))
            have hbz : Below w2.heap.size w2 (w2.alloc (zbox s1 A1 l1 c1)) := (by (repeat (first | exact Below.refl _ _ | refine Below.drew ?_ | refine Below.alloc ?_ (by first | (simp; done) | (simp; omega) | omega) _ | refine Below.setCell ?_ (by first | (simp; done) | (simp; omega) | omega) _)))
            replace H2 := Lib.hid (H2.out.below hbz)
            have Hone := Lib.hid (zp_one (HC.out.below Hst.out))
            (try simp only [World.size_alloc] at Hone)
            replace Hst := Lib.hid (Hst.out.trans (hbz.mono Hst.out.size))
            clear hbz
            refine wpAnyH_ready (rs := [3]) (by kernel_rfl) (by simp) ?_
            refine AllReadyH.cons rfl (fun K hK => ?_) AllReadyH.nil; go_simp
            refine (zscale_any _ _ _ q _ _ _ _ lead _ ((HQb.out.below Hst.out).below (by (repeat (first | exact Below.refl _ _ | refine Below.drew ?_ | refine Below.alloc ?_ (by first | (simp; done) | (simp; omega) | omega) _ | refine Below.setCell ?_ (by first | (simp; done) | (simp; omega) | omega) _)))) (H2.out.below (by (repeat (first | exact Below.refl _ _ | refine Below.drew ?_ | refine Below.alloc ?_ (by first | (simp; done) | (simp; omega) | omega) _ | refine Below.setCell ?_ (by first | (simp; done) | (simp; omega) | omega) _)))) (by omega) Bq.out (by rw [H2.out.len]; exact Lb.out)).mono ?_
            rintro e w3 ⟨A3, l3, c3, rfl, h3, hx3, hb3⟩
            obtain ⟨hcx, hfx⟩ := bcellS hb3
            have hbz : Below (w2.alloc (zbox s1 A1 l1 c1)).heap.size (w2.alloc (zbox s1 A1 l1 c1)) w3 := Below.trans (by (repeat (first | exact Below.refl _ _ | refine Below.drew ?_ | refine Below.alloc ?_ (by first | (simp; done) | (simp; omega) | omega) _ | refine Below.setCell ?_ (by first | (simp; done) | (simp; omega) | omega) _))) (hb3.mono (by simp <;> omega))
            replace Hone := Lib.hid (Hone.out.below hbz)
            replace Hst := Lib.hid (Hst.out.trans (hbz.mono Hst.out.size))
            have H3 := Lib.hid h3
            have HX3 := Lib.hid hx3
            refine hK.out _ _ ?_ (fun _ => ?_)
            · ((try dsimp only); repeat' apply And.intro) <;> (rw [hcx _ (by go_simp)]; go_simp)
            clear hHeld hK K hcx hfx; rename_i hHeld
            have hs3 := hbz.size
            clear h3 hb3 hbz hx3
            refine wpAnyH_ready (rs := [6]) (by kernel_rfl) (by simp) ?_
            refine AllReadyH.cons rfl (fun K hK => ?_) AllReadyH.nil; go_simp
            refine (ztrim_any _ _ _ [cz] _ (Hone.out.below (by (repeat (first | exact Below.refl _ _ | refine Below.drew ?_ | refine Below.alloc ?_ (by first | (simp; done) | (simp; omega) | omega) _ | refine Below.setCell ?_ (by first | (simp; done) | (simp; omega) | omega) _)))) (by omega)).mono ?_
            rintro e wt ⟨rfl, rfl⟩
            refine hK.out _ _ ?_ (fun _ => ?_)
            · assumption
            clear hHeld hK K
            rename_i hHeld
            (try (simp only [put_lit, List.set]))
            refine wpAnyH_ready (rs := [8]) (by kernel_rfl) (by simp) ?_
            refine AllReadyH.cons rfl (fun K hK => ?_) AllReadyH.nil; go_simp
            refine (zup_any _ _ _ _ (ptrim [cz]) k _ ((Hone.out.take (plen_le [cz])).below (by (repeat (first | exact Below.refl _ _ | refine Below.drew ?_ | refine Below.alloc ?_ (by first | (simp; done) | (simp; omega) | omega) _ | refine Below.setCell ?_ (by first | (simp; done) | (simp; omega) | omega) _)))) (by have := plen_le [cz]; simp at this; omega) (by omega)).mono ?_
            rintro e w4 ⟨A4, l4, c4, rfl, h4, hx4, hb4⟩
            obtain ⟨hcx, hfx⟩ := bcellS hb4
            have hbz : Below w3.heap.size w3 w4 := Below.trans (by (repeat (first | exact Below.refl _ _ | refine Below.drew ?_ | refine Below.alloc ?_ (by first | (simp; done) | (simp; omega) | omega) _ | refine Below.setCell ?_ (by first | (simp; done) | (simp; omega) | omega) _))) (hb4.mono (by simp <;> omega))
            replace H3 := Lib.hid (H3.out.below hbz)
            replace Hst := Lib.hid (Hst.out.trans (hbz.mono Hst.out.size))
            have H4 := Lib.hid h4
            have hl4 := h4.length
            refine hK.out _ _ ?_ (fun _ => ?_)
            · ((try dsimp only); repeat' apply And.intro) <;> (rw [hcx _ (by go_simp)]; go_simp)
            clear hHeld hK K hcx hfx; rename_i hHeld
            have hs4 := hbz.size
            clear h4 hb4 hbz hx4
            refine wpAnyH_ready (rs := [9]) (by kernel_rfl) (by simp) ?_
            refine AllReadyH.cons rfl (fun K hK => ?_) AllReadyH.nil; go_simp
            refine (zpadd_any _ _ _ (zsc q lead) _ _ _ (zup (ptrim [cz]) k) _ (H3.out.below (by (repeat (first | exact Below.refl _ _ | refine Below.drew ?_ | refine Below.alloc ?_ (by first | (simp; done) | (simp; omega) | omega) _ | refine Below.setCell ?_ (by first | (simp; done) | (simp; omega) | omega) _)))) (H4.out.below (by (repeat (first | exact Below.refl _ _ | refine Below.drew ?_ | refine Below.alloc ?_ (by first | (simp; done) | (simp; omega) | omega) _ | refine Below.setCell ?_ (by first | (simp; done) | (simp; omega) | omega) _)))) (by have := H3.out.length; have := zsc_len q lead; omega) (by have := zup_len (ptrim [cz]) k; have := plen_le [cz]; rw [← ptrim_length] at this; simp at this; omega) Z1.out Z2.out).mono ?_
            rintro e w5 ⟨A5, l5, c5, rfl, h5, hx5, hb5⟩
            obtain ⟨hcx, hfx⟩ := bcellS hb5
            have hbz : Below w4.heap.size w4 w5 := Below.trans (by (repeat (first | exact Below.refl _ _ | refine Below.drew ?_ | refine Below.alloc ?_ (by first | (simp; done) | (simp; omega) | omega) _ | refine Below.setCell ?_ (by first | (simp; done) | (simp; omega) | omega) _))) (hb5.mono (by simp <;> omega))
            replace Hst := Lib.hid (Hst.out.trans (hbz.mono Hst.out.size))
            have H5 := Lib.hid h5
            refine hK.out _ _ ?_ (fun _ => ?_)
            · ((try dsimp only); repeat' apply And.intro) <;> (rw [hcx _ (by go_simp)]; go_simp)
            clear hHeld hK K hcx hfx; rename_i hHeld
            clear h5 hb5 hbz hx5
            refine wpAnyH_done (by kernel_rfl) (lastQ_list rfl ?_) _
            clear hHeld
            go_wp2_with fail
            go_meet
            exact ⟨_, _, _, rfl, H5.out, Hst.out⟩
        · go_simp
          refine hK.out _ _ ?_ (fun _ => ?_)
          · (try dsimp only); go_keep
          clear hHeld hK K
          rename_i hHeld
          (try (simp only [put_lit, List.set]))
          have hbz : Below (w1.alloc (zbox s1 A1 l1 c1)).heap.size (w1.alloc (zbox s1 A1 l1 c1)) ((w1.alloc (zbox s1 A1 l1 c1)).alloc (zbox s1 A1 l1 c1)) := (by (repeat (first | exact Below.refl _ _ | refine Below.drew ?_ | refine Below.alloc ?_ (by first | (simp; done) | (simp; omega) | omega) _ | refine Below.setCell ?_ (by first | (simp; done) | (simp; omega) | omega) _)))

          have Hone := Lib.hid (zp_one (HC.out.below Hst.out))
          (try simp only [World.size_alloc] at Hone)
          replace Hst := Lib.hid (Hst.out.trans (hbz.mono Hst.out.size))
          clear hbz
          refine wpAnyH_ready (rs := [2]) (by kernel_rfl) (by simp) ?_
          refine AllReadyH.cons rfl (fun K hK => ?_) AllReadyH.nil; go_simp
          refine (zlead_any _ _ _ g _ ((HGb.out.below Hst.out).below (by (repeat (first | exact Below.refl _ _ | refine Below.drew ?_ | refine Below.alloc ?_ (by first | (simp; done) | (simp; omega) | omega) _ | refine Below.setCell ?_ (by first | (simp; done) | (simp; omega) | omega) _)))) (by omega) (by omega)).mono ?_
          rintro e w2 ⟨s2, A2, l2, c2, rfl, h2, hb2⟩
          rw [← HL.out] at h2
          obtain ⟨hcx, hfx⟩ := bcellS hb2
          have hbz : Below ((w1.alloc (zbox s1 A1 l1 c1)).alloc (zbox s1 A1 l1 c1)).heap.size ((w1.alloc (zbox s1 A1 l1 c1)).alloc (zbox s1 A1 l1 c1)) w2 := Below.trans (by (repeat (first | exact Below.refl _ _ | refine Below.drew ?_ | refine Below.alloc ?_ (by first | (simp; done) | (simp; omega) | omega) _ | refine Below.setCell ?_ (by first | (simp; done) | (simp; omega) | omega) _))) (hb2.mono (by simp <;> omega))
          replace Hone := Lib.hid (Hone.out.below hbz)
          replace Hst := Lib.hid (Hst.out.trans (hbz.mono Hst.out.size))
          have H2 := Lib.hid h2
          refine hK.out _ _ ?_ (fun _ => ?_)
          · ((try dsimp only); repeat' apply And.intro) <;> (rw [hcx _ (by go_simp)]; go_simp)
          clear hHeld hK K hcx hfx; rename_i hHeld
          have hs2 := hbz.size
          clear h2 hb2 hbz
          refine wpAnyH_ready (rs := [3]) (by kernel_rfl) (by simp) ?_
          refine AllReadyH.cons rfl (fun K hK => ?_) AllReadyH.nil; go_simp
          refine (zscale_any _ _ _ q _ _ _ _ lead _ ((HQb.out.below Hst.out).below (by (repeat (first | exact Below.refl _ _ | refine Below.drew ?_ | refine Below.alloc ?_ (by first | (simp; done) | (simp; omega) | omega) _ | refine Below.setCell ?_ (by first | (simp; done) | (simp; omega) | omega) _)))) (H2.out.below (by (repeat (first | exact Below.refl _ _ | refine Below.drew ?_ | refine Below.alloc ?_ (by first | (simp; done) | (simp; omega) | omega) _ | refine Below.setCell ?_ (by first | (simp; done) | (simp; omega) | omega) _)))) (by omega) Bq.out (by rw [H2.out.len]; exact Lb.out)).mono ?_
          rintro e w3 ⟨A3, l3, c3, rfl, h3, hx3, hb3⟩
          obtain ⟨hcx, hfx⟩ := bcellS hb3
          have hbz : Below w2.heap.size w2 w3 := Below.trans (by (repeat (first | exact Below.refl _ _ | refine Below.drew ?_ | refine Below.alloc ?_ (by first | (simp; done) | (simp; omega) | omega) _ | refine Below.setCell ?_ (by first | (simp; done) | (simp; omega) | omega) _))) (hb3.mono (by simp <;> omega))
          replace Hone := Lib.hid (Hone.out.below hbz)
          replace Hst := Lib.hid (Hst.out.trans (hbz.mono Hst.out.size))
          have H3 := Lib.hid h3
          have HX3 := Lib.hid hx3
          refine hK.out _ _ ?_ (fun _ => ?_)
          · ((try dsimp only); repeat' apply And.intro) <;> (rw [hcx _ (by go_simp)]; go_simp)
          clear hHeld hK K hcx hfx; rename_i hHeld
          have hs3 := hbz.size
          clear h3 hb3 hbz hx3
          refine wpAnyH_ready (rs := [6]) (by kernel_rfl) (by simp) ?_
          refine AllReadyH.cons rfl (fun K hK => ?_) AllReadyH.nil; go_simp
          refine (ztrim_any _ _ _ [cz] _ (Hone.out.below (by (repeat (first | exact Below.refl _ _ | refine Below.drew ?_ | refine Below.alloc ?_ (by first | (simp; done) | (simp; omega) | omega) _ | refine Below.setCell ?_ (by first | (simp; done) | (simp; omega) | omega) _)))) (by omega)).mono ?_
          rintro e wt ⟨rfl, rfl⟩
          refine hK.out _ _ ?_ (fun _ => ?_)
          · assumption
          clear hHeld hK K
          rename_i hHeld
          (try (simp only [put_lit, List.set]))
          refine wpAnyH_ready (rs := [8]) (by kernel_rfl) (by simp) ?_
          refine AllReadyH.cons rfl (fun K hK => ?_) AllReadyH.nil; go_simp
          refine (zup_any _ _ _ _ (ptrim [cz]) k _ ((Hone.out.take (plen_le [cz])).below (by (repeat (first | exact Below.refl _ _ | refine Below.drew ?_ | refine Below.alloc ?_ (by first | (simp; done) | (simp; omega) | omega) _ | refine Below.setCell ?_ (by first | (simp; done) | (simp; omega) | omega) _)))) (by have := plen_le [cz]; simp at this; omega) (by omega)).mono ?_
          rintro e w4 ⟨A4, l4, c4, rfl, h4, hx4, hb4⟩
          obtain ⟨hcx, hfx⟩ := bcellS hb4
          have hbz : Below w3.heap.size w3 w4 := Below.trans (by (repeat (first | exact Below.refl _ _ | refine Below.drew ?_ | refine Below.alloc ?_ (by first | (simp; done) | (simp; omega) | omega) _ | refine Below.setCell ?_ (by first | (simp; done) | (simp; omega) | omega) _))) (hb4.mono (by simp <;> omega))
          replace H3 := Lib.hid (H3.out.below hbz)
          replace Hst := Lib.hid (Hst.out.trans (hbz.mono Hst.out.size))
          have H4 := Lib.hid h4
          have hl4 := h4.length
          refine hK.out _ _ ?_ (fun _ => ?_)
          · ((try dsimp only); repeat' apply And.intro) <;> (rw [hcx _ (by go_simp)]; go_simp)
          clear hHeld hK K hcx hfx; rename_i hHeld
          have hs4 := hbz.size
          clear h4 hb4 hbz hx4
          refine wpAnyH_ready (rs := [9]) (by kernel_rfl) (by simp) ?_
          refine AllReadyH.cons rfl (fun K hK => ?_) AllReadyH.nil; go_simp
          refine (zpadd_any _ _ _ (zsc q lead) _ _ _ (zup (ptrim [cz]) k) _ (H3.out.below (by (repeat (first | exact Below.refl _ _ | refine Below.drew ?_ | refine Below.alloc ?_ (by first | (simp; done) | (simp; omega) | omega) _ | refine Below.setCell ?_ (by first | (simp; done) | (simp; omega) | omega) _)))) (H4.out.below (by (repeat (first | exact Below.refl _ _ | refine Below.drew ?_ | refine Below.alloc ?_ (by first | (simp; done) | (simp; omega) | omega) _ | refine Below.setCell ?_ (by first | (simp; done) | (simp; omega) | omega) _)))) (by have := H3.out.length; have := zsc_len q lead; omega) (by have := zup_len (ptrim [cz]) k; have := plen_le [cz]; rw [← ptrim_length] at this; simp at this; omega) Z1.out Z2.out).mono ?_
          rintro e w5 ⟨A5, l5, c5, rfl, h5, hx5, hb5⟩
          obtain ⟨hcx, hfx⟩ := bcellS hb5
          have hbz : Below w4.heap.size w4 w5 := Below.trans (by (repeat (first | exact Below.refl _ _ | refine Below.drew ?_ | refine Below.alloc ?_ (by first | (simp; done) | (simp; omega) | omega) _ | refine Below.setCell ?_ (by first | (simp; done) | (simp; omega) | omega) _))) (hb5.mono (by simp <;> omega))
          replace Hst := Lib.hid (Hst.out.trans (hbz.mono Hst.out.size))
          have H5 := Lib.hid h5
          refine hK.out _ _ ?_ (fun _ => ?_)
          · ((try dsimp only); repeat' apply And.intro) <;> (rw [hcx _ (by go_simp)]; go_simp)
          clear hHeld hK K hcx hfx; rename_i hHeld
          clear h5 hb5 hbz hx5
          refine wpAnyH_done (by kernel_rfl) (lastQ_list rfl ?_) _
          clear hHeld
          go_wp2_with fail
          go_meet
          exact ⟨_, _, _, rfl, H5.out, Hst.out⟩
      case rest =>
        clear Hst
        obtain ⟨A5, l5, c5, rfl, h5, hst⟩ := hcut
        have H5 := Lib.hid h5
        have Hst := Lib.hid hst
        obtain ⟨hcx, hfx⟩ := bcell hst
        have e0 : wc.cell? ⟨w1.heap.size, 0, none⟩ = some (.int .i64 s1) := by rw [hcx _ _ (by simp)]; go_simp
        have e1 : wc.cell? ⟨w1.heap.size, 1, none⟩ = some (.slice A1 l1 c1) := by rw [hcx _ _ (by simp)]; go_simp
        have hs5 := hst.size
        simp only [World.size_alloc] at hs5
        clear h5 hst hcx hfx
        go_wp2_with fail
        refine wp_region_last (S := (fun w' => w'.cell? ⟨w1.heap.size, 0, none⟩ = some (.int .i64 s1) ∧ w'.cell? ⟨w1.heap.size, 1, none⟩ = some (.slice A1 l1 c1))) (by kernel_rfl) (by kernel_rfl) (by (try dsimp only); go_keep) (fun hHeld => ?_)
        simp only [List.pop_toArray, List.dropLast]
        (refine take_at (i := 0) (oi := _) (v := ?_) rfl rfl (by kernel_rfl) (by kernel_rfl) (by kernel_rfl) (fun _ _ _ h => h) (Or.inl ⟨by rfl, ?_⟩) (by assumption) ?_; rotate_left; (focus (intro w hSw; (try dsimp only at hSw); go_simp; (try with_reducible rfl))); (simp only [put_lit, List.set]))
        (refine take_at (i := 1) (oi := _) (v := ?_) rfl rfl (by kernel_rfl) (by kernel_rfl) (by kernel_rfl) (fun _ _ _ h => h) (Or.inl ⟨by rfl, ?_⟩) (by assumption) ?_; rotate_left; (focus (intro w hSw; (try dsimp only at hSw); go_simp; (try with_reducible rfl))); (simp only [put_lit, List.set]))
        (refine take_at (i := 4) (oi := _) (v := ?_) rfl rfl (by kernel_rfl) (by kernel_rfl) (by kernel_rfl) (fun _ _ _ h => h) (Or.inl ⟨by rfl, ?_⟩) (by assumption) ?_; rotate_left; (focus (intro w hSw; (try dsimp only at hSw); go_simp; (try with_reducible rfl))); (simp only [put_lit, List.set]))
        (refine take_at (i := 5) (oi := _) (v := ?_) rfl rfl (by kernel_rfl) (by kernel_rfl) (by kernel_rfl) (fun _ _ _ h => h) (Or.inl ⟨by rfl, ?_⟩) (by assumption) ?_; rotate_left; (focus (intro w hSw; (try dsimp only at hSw); go_simp; (try with_reducible rfl))); (simp only [put_lit, List.set]))
        (refine take_at (i := 7) (oi := _) (v := ?_) rfl rfl (by kernel_rfl) (by kernel_rfl) (by kernel_rfl) (fun _ _ _ h => h) (Or.inl ⟨by rfl, ?_⟩) (by assumption) ?_; rotate_left; (focus (intro w hSw; (try dsimp only at hSw); go_simp; (try with_reducible rfl))); (simp only [put_lit, List.set]))
        refine wpAnyH_ready (rs := [2]) (by kernel_rfl) (by simp) ?_
        refine AllReadyH.cons rfl (fun K hK => ?_) AllReadyH.nil; go_simp
        refine (zlead_any _ _ _ g _ ((HGb.out.below Hst.out).below (by (repeat (first | exact Below.refl _ _ | refine Below.drew ?_ | refine Below.alloc ?_ (by first | (simp; done) | (simp; omega) | omega) _ | refine Below.setCell ?_ (by first | (simp; done) | (simp; omega) | omega) _)))) (by omega) (by omega)).mono ?_
        rintro e w6 ⟨s6, A6, l6, c6, rfl, h6, hb6⟩
        rw [← HL.out] at h6
        obtain ⟨hcx, hfx⟩ := bcellS hb6
        have hbz : Below wc.heap.size wc w6 := Below.trans (by (repeat (first | exact Below.refl _ _ | refine Below.drew ?_ | refine Below.alloc ?_ (by first | (simp; done) | (simp; omega) | omega) _ | refine Below.setCell ?_ (by first | (simp; done) | (simp; omega) | omega) _))) (hb6.mono (by simp <;> omega))
        replace H5 := Lib.hid (H5.out.below hbz)
        replace Hst := Lib.hid (Hst.out.trans (hbz.mono Hst.out.size))
        have H6 := Lib.hid h6
        refine hK.out _ _ ?_ (fun _ => ?_)
        · ((try dsimp only); repeat' apply And.intro) <;> (rw [hcx _ (by go_simp)]; go_simp)
        clear hHeld hK K hcx hfx; rename_i hHeld
        have hs6 := hbz.size
        clear h6 hb6 hbz
        refine wpAnyH_ready (rs := [3]) (by kernel_rfl) (by simp) ?_
        refine AllReadyH.cons rfl (fun K hK => ?_) AllReadyH.nil; go_simp
        refine (zscale_any _ _ _ r _ _ _ _ lead _ ((HRb.out.below Hst.out).below (by (repeat (first | exact Below.refl _ _ | refine Below.drew ?_ | refine Below.alloc ?_ (by first | (simp; done) | (simp; omega) | omega) _ | refine Below.setCell ?_ (by first | (simp; done) | (simp; omega) | omega) _)))) (H6.out.below (by (repeat (first | exact Below.refl _ _ | refine Below.drew ?_ | refine Below.alloc ?_ (by first | (simp; done) | (simp; omega) | omega) _ | refine Below.setCell ?_ (by first | (simp; done) | (simp; omega) | omega) _)))) (by omega) Br.out (by rw [H6.out.len]; exact Lb.out)).mono ?_
        rintro e w7 ⟨A7, l7, c7, rfl, h7, hx7, hb7⟩
        obtain ⟨hcx, hfx⟩ := bcellS hb7
        have hbz : Below w6.heap.size w6 w7 := Below.trans (by (repeat (first | exact Below.refl _ _ | refine Below.drew ?_ | refine Below.alloc ?_ (by first | (simp; done) | (simp; omega) | omega) _ | refine Below.setCell ?_ (by first | (simp; done) | (simp; omega) | omega) _))) (hb7.mono (by simp <;> omega))
        replace H5 := Lib.hid (H5.out.below hbz)
        replace Hst := Lib.hid (Hst.out.trans (hbz.mono Hst.out.size))
        have H7 := Lib.hid h7
        have HX7 := Lib.hid hx7
        refine hK.out _ _ ?_ (fun _ => ?_)
        · ((try dsimp only); repeat' apply And.intro) <;> (rw [hcx _ (by go_simp)]; go_simp)
        clear hHeld hK K hcx hfx; rename_i hHeld
        have hs7 := hbz.size
        clear h7 hb7 hbz hx7
        refine wpAnyH_ready (rs := [6]) (by kernel_rfl) (by simp) ?_
        refine AllReadyH.cons rfl (fun K hK => ?_) AllReadyH.nil; go_simp
        refine (zscale_any _ _ _ g _ _ _ _ cz _ ((HGb.out.below Hst.out).below (by (repeat (first | exact Below.refl _ _ | refine Below.drew ?_ | refine Below.alloc ?_ (by first | (simp; done) | (simp; omega) | omega) _ | refine Below.setCell ?_ (by first | (simp; done) | (simp; omega) | omega) _)))) ((HC.out.below Hst.out).below (by (repeat (first | exact Below.refl _ _ | refine Below.drew ?_ | refine Below.alloc ?_ (by first | (simp; done) | (simp; omega) | omega) _ | refine Below.setCell ?_ (by first | (simp; done) | (simp; omega) | omega) _)))) (by omega) Bg.out (by rw [(HC.out.below Hst.out).len]; exact Cb.out)).mono ?_
        rintro e w8 ⟨A8, l8, c8, rfl, h8, hx8, hb8⟩
        obtain ⟨hcx, hfx⟩ := bcellS hb8
        have hbz : Below w7.heap.size w7 w8 := Below.trans (by (repeat (first | exact Below.refl _ _ | refine Below.drew ?_ | refine Below.alloc ?_ (by first | (simp; done) | (simp; omega) | omega) _ | refine Below.setCell ?_ (by first | (simp; done) | (simp; omega) | omega) _))) (hb8.mono (by simp <;> omega))
        replace H5 := Lib.hid (H5.out.below hbz)
        replace H7 := Lib.hid (H7.out.below hbz)
        replace Hst := Lib.hid (Hst.out.trans (hbz.mono Hst.out.size))
        have H8 := Lib.hid h8
        have HX8 := Lib.hid hx8
        refine hK.out _ _ ?_ (fun _ => ?_)
        · ((try dsimp only); repeat' apply And.intro) <;> (rw [hcx _ (by go_simp)]; go_simp)
        clear hHeld hK K hcx hfx; rename_i hHeld
        have hs8 := hbz.size
        clear h8 hb8 hbz hx8
        refine wpAnyH_ready (rs := [8]) (by kernel_rfl) (by simp) ?_
        refine AllReadyH.cons rfl (fun K hK => ?_) AllReadyH.nil; go_simp
        obtain ⟨b8, o8, eA8⟩ := HX8.out (by omega)
        subst eA8
        refine (zup_any _ _ _ _ (zsc g cz) k _ (H8.out.below (by (repeat (first | exact Below.refl _ _ | refine Below.drew ?_ | refine Below.alloc ?_ (by first | (simp; done) | (simp; omega) | omega) _ | refine Below.setCell ?_ (by first | (simp; done) | (simp; omega) | omega) _)))) (by have := H8.out.length; have := zsc_len g cz; omega) (by omega)).mono ?_
        rintro e w9 ⟨A9, l9, c9, rfl, h9, hx9, hb9⟩
        obtain ⟨hcx, hfx⟩ := bcellS hb9
        have hbz : Below w8.heap.size w8 w9 := Below.trans (by (repeat (first | exact Below.refl _ _ | refine Below.drew ?_ | refine Below.alloc ?_ (by first | (simp; done) | (simp; omega) | omega) _ | refine Below.setCell ?_ (by first | (simp; done) | (simp; omega) | omega) _))) (hb9.mono (by simp <;> omega))
        replace H5 := Lib.hid (H5.out.below hbz)
        replace H7 := Lib.hid (H7.out.below hbz)
        replace Hst := Lib.hid (Hst.out.trans (hbz.mono Hst.out.size))
        have H9 := Lib.hid h9
        refine hK.out _ _ ?_ (fun _ => ?_)
        · ((try dsimp only); repeat' apply And.intro) <;> (rw [hcx _ (by go_simp)]; go_simp)
        clear hHeld hK K hcx hfx; rename_i hHeld
        have hs9 := hbz.size
        clear h9 hb9 hbz hx9
        refine wpAnyH_ready (rs := [9]) (by kernel_rfl) (by simp) ?_
        refine AllReadyH.cons rfl (fun K hK => ?_) AllReadyH.nil; go_simp
        refine (zneg_any _ _ _ (zup (zsc g cz) k) _ (H9.out.below (by (repeat (first | exact Below.refl _ _ | refine Below.drew ?_ | refine Below.alloc ?_ (by first | (simp; done) | (simp; omega) | omega) _ | refine Below.setCell ?_ (by first | (simp; done) | (simp; omega) | omega) _)))) (by have := H9.out.length; have := zup_len (zsc g cz) k; have := zsc_len g cz; omega) Z3.out).mono ?_
        rintro e w10 ⟨A10, l10, c10, rfl, h10, hx10, hb10⟩
        obtain ⟨hcx, hfx⟩ := bcellS hb10
        have hbz : Below w9.heap.size w9 w10 := Below.trans (by (repeat (first | exact Below.refl _ _ | refine Below.drew ?_ | refine Below.alloc ?_ (by first | (simp; done) | (simp; omega) | omega) _ | refine Below.setCell ?_ (by first | (simp; done) | (simp; omega) | omega) _))) (hb10.mono (by simp <;> omega))
        replace H5 := Lib.hid (H5.out.below hbz)
        replace H7 := Lib.hid (H7.out.below hbz)
        replace Hst := Lib.hid (Hst.out.trans (hbz.mono Hst.out.size))
        have H10 := Lib.hid h10
        refine hK.out _ _ ?_ (fun _ => ?_)
        · ((try dsimp only); repeat' apply And.intro) <;> (rw [hcx _ (by go_simp)]; go_simp)
        clear hHeld hK K hcx hfx; rename_i hHeld
        have hs10 := hbz.size
        clear h10 hb10 hbz hx10
        refine wpAnyH_ready (rs := [10]) (by kernel_rfl) (by simp) ?_
        refine AllReadyH.cons rfl (fun K hK => ?_) AllReadyH.nil; go_simp
        refine (zpadd_any _ _ _ (zsc r lead) _ _ _ (zsc (zup (zsc g cz) k) (-1)) _ (H7.out.below (by (repeat (first | exact Below.refl _ _ | refine Below.drew ?_ | refine Below.alloc ?_ (by first | (simp; done) | (simp; omega) | omega) _ | refine Below.setCell ?_ (by first | (simp; done) | (simp; omega) | omega) _)))) (H10.out.below (by (repeat (first | exact Below.refl _ _ | refine Below.drew ?_ | refine Below.alloc ?_ (by first | (simp; done) | (simp; omega) | omega) _ | refine Below.setCell ?_ (by first | (simp; done) | (simp; omega) | omega) _)))) (by have := H7.out.length; have := zsc_len r lead; omega) (by have := H10.out.length; have := zsc_len (zup (zsc g cz) k) (-1); have := zup_len (zsc g cz) k; have := zsc_len g cz; omega) Z4.out Z5.out).mono ?_
        rintro e w11 ⟨A11, l11, c11, rfl, h11, hx11, hb11⟩
        obtain ⟨hcx, hfx⟩ := bcellS hb11
        have hbz : Below w10.heap.size w10 w11 := Below.trans (by (repeat (first | exact Below.refl _ _ | refine Below.drew ?_ | refine Below.alloc ?_ (by first | (simp; done) | (simp; omega) | omega) _ | refine Below.setCell ?_ (by first | (simp; done) | (simp; omega) | omega) _))) (hb11.mono (by simp <;> omega))
        replace H5 := Lib.hid (H5.out.below hbz)
        replace Hst := Lib.hid (Hst.out.trans (hbz.mono Hst.out.size))
        have H11 := Lib.hid h11
        refine hK.out _ _ ?_ (fun _ => ?_)
        · ((try dsimp only); repeat' apply And.intro) <;> (rw [hcx _ (by go_simp)]; go_simp)
        clear hHeld hK K hcx hfx; rename_i hHeld
        clear h11 hb11 hbz hx11
        refine wpAnyH_done (by kernel_rfl) (lastQ_list rfl ?_) _
        clear hHeld
        go_wp2_with fail
        go_roundw
        case rel => exact ⟨t + 1, x2, _, _, _, _, _, _, by omega, HX3.out, rfl, rfl, rfl, Hnq.out _ _ _ _ H5.out, Hnr.out _ _ _ _ H11.out, Hbw1.out.trans (Hst.out.mono Hbw1.out.size)⟩
        case measure => simp [intOf]; omega
    · have t1 : ¬ (0 : Int) ≤ x := by have := HX.out; omega
      have htN : t = N := by omega
      subst htN
      clear hq hr hbw hx
      go_wp2
      refine bodyPost_ret (v := .tuple #[.slice Aq lq cq, .slice Ar lr cr]) (by simp [results, Tryz.results18, go_sem]) rfl ⟨_, _, _, _, _, _, rfl, Hq.out, Hr.out, Hbw.out⟩
end Go.Proofs.YtgblfpkfapmlnaaGreat
