/- The walk of the law UnidivIdentity: it answers true, and only makes new memory. -/
import Derived.Test.YtfpliceenjbclaaIdP
import Derived.Test.YtfpliceenjbclaaFew
import Derived.Test.YtfpliceenjbclaaCmp
import Derived.Test.YtfpliceenjbclaaAwl
namespace Go.Proofs.Ytfpliceenjbclaa
open Go.RowKit

set_option maxRecDepth 100000 in
set_option maxHeartbeats 8000000 in
theorem law_identity (A : Option Addr) (la ca : Nat) (f : List Int) (B : Option Addr) (lb cb : Nat) (g : List Int) (w : World) (hf : PolyP IntR w A la ca f) (hg : PolyP IntR w B lb cb g) :
    Calls Try.prog 12 #[.slice A la ca, .slice B lb cb] w fun e w' => e = .returned (.bool true) ∧ Below w.heap.size w w' := by
  go_enter Try.func12, Try.ntmps12
  go_wp2_with fail
  refine (awake9_any _).mono ?_
  rintro e w1 ⟨rfl, hb1⟩
  have hf1 := PolyR.below hf hb1
  have hg1 := PolyR.below hg hb1
  have Hb1 := Lib.hid hb1
  clear hf hg hb1
  go_wp2_with fail
  refine (few_any 10 2 _ _ _ _ _ _ _ _ _ hf1 hg1 (by omega) (by omega)).mono ?_
  rintro e w2 ⟨⟨b, rfl, hq⟩, rfl⟩
  clear hf1 hg1
  cases b with
  | false =>
    clear hq
    go_wp2_with fail
    refine (awake9_any _).mono ?_
    rintro e w3 ⟨rfl, hb3⟩
    have Hb3 := Lib.hid (Hb1.out.trans (hb3.mono Hb1.out.size))
    clear hb3 Hb1
    go_wp2
    go_ret
    exact ⟨rfl, Hb3.out⟩
  | true =>
    obtain ⟨qf, qg⟩ := hq rfl
    have hla := qf.le
    have hlb := qg.le
    have ff0 := qf.lt
    have gg0 := qg.lt
    have hf2 := qf.at_
    have hg2 := qg.at_
    have fitg : FitP g := fun k => pow_fit (gg0 k) (by omega)
    have lf : f.length = la := hf2.length
    have lg : g.length = lb := hg2.length
    have hpf := plen_le f
    have hpg := plen_le g
    have Ff0 := Lib.hid ff0
    have Gg0 := Lib.hid gg0
    have hsg : SmP g := fitg.smp
    clear hq qf qg ff0 gg0
    by_cases hg0 : plen g = 0
    · have dneg : ((plen g : Nat) - 1 : Int) < 0 := by omega
      go_wp2_with fail
      refine (degree_any _ _ _ _ _ hg2 hsg (by omega)).mono ?_
      rintro e w3 ⟨rfl, hb3⟩
      have Hb3 := Lib.hid (Hb1.out.trans (hb3.mono Hb1.out.size))
      clear hb3 Hb1 hf2 hg2
      go_wp2_with fail
      refine (awake9_any _).mono ?_
      rintro e w4 ⟨rfl, hb4⟩
      have Hb4 := Lib.hid (Hb3.out.trans (hb4.mono Hb3.out.size))
      clear hb4 Hb3
      go_wp2
      go_ret
      exact ⟨rfl, Hb4.out⟩
    · have OK := Lib.hid (show IdOK f g from ⟨Ff0.out, Gg0.out, by omega, by omega⟩)
      have hsf : SmP f := OK.out.fitf.smp
      obtain ⟨dg, hdg⟩ : ∃ d : Nat, plen g = d + 1 := ⟨plen g - 1, by omega⟩
      obtain ⟨pf, hpf2⟩ : ∃ d : Nat, d = plen f := ⟨_, rfl⟩
      have dpos : ¬ ((plen g : Nat) - 1 : Int) < 0 := by omega
      go_wp2_with fail
      refine (degree_any _ _ _ _ _ hg2 hsg (by omega)).mono ?_
      rintro e w3 ⟨rfl, hb3⟩
      have hf3 := hf2.below ikAt hb3
      have hg3 := hg2.below ikAt hb3
      have Hb3 := Lib.hid (Hb1.out.trans (hb3.mono Hb1.out.size))
      clear hb3 Hb1 hf2 hg2
      go_wp2_with fail
      refine (pseudo_any ikAt ikAt _ _ _ _ _ _ _ _ 2 _ hf3 hg3 OK.out.dl fitg OK.out.one (by omega) (by omega) (by omega)).mono ?_
      rintro e w4 ⟨A1, l1, c1, A2, l2, c2, rfl, hq4, hr4, hb4⟩
      have hf4 := hf3.below ikAt hb4
      have hg4 := hg3.below ikAt hb4
      have Hq4 := Lib.hid hq4
      have Hr4 := Lib.hid hr4
      have Hb4 := Lib.hid (Hb3.out.trans (hb4.mono Hb3.out.size))
      clear hb4 Hb3 hf3 hg3 hq4 hr4
      go_wp2_with fail
      refine (degree_any _ _ _ _ _ hf4 hsf (by omega)).mono ?_
      rintro e w5 ⟨rfl, hb5⟩
      have hf5 := hf4.below ikAt hb5
      have hg5 := hg4.below ikAt hb5
      have Hq5 := Lib.hid (Hq4.out.below ikN hb5)
      have Hr5 := Lib.hid (Hr4.out.below ikN hb5)
      have Hb5 := Lib.hid (Hb4.out.trans (hb5.mono Hb4.out.size))
      clear hb5 Hb4 hf4 hg4 Hq4 Hr4
      go_wp2_with fail
      refine (degree_any _ _ _ _ _ hg5 hsg (by omega)).mono ?_
      rintro e w6 ⟨rfl, hb6⟩
      have hf6 := hf5.below ikAt hb6
      have hg6 := hg5.below ikAt hb6
      have Hq6 := Lib.hid (Hq5.out.below ikN hb6)
      have Hr6 := Lib.hid (Hr5.out.below ikN hb6)
      have Hb6 := Lib.hid (Hb5.out.trans (hb6.mono Hb5.out.size))
      clear hb6 Hb5 hf5 hg5 Hq5 Hr5
      obtain ⟨m, hm⟩ : ∃ m : Nat, m = plen f - (plen g - 1) := ⟨_, rfl⟩
      have hm10 : m ≤ 10 := by omega
      have hmx : max (((plen f : Nat) : Int) - 1 - (dg : Int) + 1) 0 = (m : Int) := by omega
      have Hm := Lib.hid hm
      clear hm
      go_wp2_with fail
      refine (iof_any 1 _ (by unfold I64; omega)).mono ?_
      rintro e w7 ⟨n7, A7, l7, c7, rfl, h7, hb7⟩
      have hba : Below w7.heap.size w7 (w7.alloc (ibox n7 A7 l7 c7)) := (Below.refl _ _).alloc (Nat.le_refl _) _
      have HX := Lib.hid (IBox.make h7)
      have Hf7 := Lib.hid (hf6.below ikAt hb7)
      have Hg7 := Lib.hid (hg6.below ikAt hb7)
      have Hq7 := Lib.hid (Hq6.out.below ikN hb7)
      have Hr7 := Lib.hid (Hr6.out.below ikN hb7)
      have Hb7 := Lib.hid (Hb6.out.trans (hb7.mono Hb6.out.size))
      have Hba := Lib.hid hba
      clear h7 hb7 hba hf6 hg6 Hq6 Hr6 Hb6
      have f0 := HX.out.f0
      have f1 := HX.out.f1
      obtain ⟨L, hL⟩ : ∃ L, L = plead g := ⟨_, rfl⟩
      have hLf : Fit L := by rw [hL]; exact fitg _
      have HL := Lib.hid hL
      have hLp : Hid (∀ i, i ≤ 10 → Fit (L ^ i)) := Lib.hid (fun i hi => by rw [HL.out]; exact OK.out.leadFit hi)
      clear hL
      go_wp2
      clear f0 f1
      go_loopw [10] (fun s10 wr => ∃ (k : Nat) (n3 : Bool) (A3 : Option Addr) (l3 c3 : Nat), k ≤ m ∧ s10 = .int .i64 (k : Int) ∧ IBox wr w7.heap.size n3 A3 l3 c3 (L ^ k) ∧ Below w7.heap.size w7 wr) (fun s10 _ => m - (intOf s10).toNat)
      case atStart => exact ⟨0, _, _, _, _, Nat.zero_le _, rfl, by rw [Int.pow_zero]; exact HX.out, Hba.out⟩
      case round =>
        clear HX Hba
        obtain ⟨k, n3, A3, l3, c3, hk, rfl, hx, hbw⟩ := hrel
        have HX := Lib.hid hx
        have Hbw := Lib.hid hbw
        have x0 := hx.c0
        have x1 := hx.c1
        have x2 := hx.f0
        have x3 := hx.f1
        have hxl := hx.lt
        clear hx hbw
        by_cases hlt : k < m
        · have hkm : (k : Int) < (m : Int) := by omega
          have HG := Lib.hid (Hg7.out.below ikAt Hbw.out)
          have fk : SmI (L ^ k) := (hLp.out k (by omega)).sm
          have mk : MulOK (L ^ k).natAbs L.natAbs := (hLp.out k (by omega)).mulok _
          go_wp2_with fail
          refine wp_region_last (S := fun w' => w'.cell? ⟨w7.heap.size, 0, none⟩ = some (.bool n3) ∧ w'.cell? ⟨w7.heap.size, 1, none⟩ = some (.slice A3 l3 c3)) (by kernel_rfl) (by kernel_rfl) (by (try dsimp only); go_keep) (fun hHeld => ?_)
          simp only [List.pop_toArray, List.dropLast]
          (refine take_at (i := 0) (oi := _) (v := ?_) rfl rfl (by kernel_rfl) (by kernel_rfl) (by kernel_rfl) (fun _ _ _ h => h) (Or.inl ⟨by rfl, ?_⟩) (by assumption) ?_; rotate_left; (focus (intro w hSw; (try dsimp only at hSw); go_simp; (try with_reducible rfl))); (simp only [put_lit, List.set]))
          (refine take_at (i := 1) (oi := _) (v := ?_) rfl rfl (by kernel_rfl) (by kernel_rfl) (by kernel_rfl) (fun _ _ _ h => h) (Or.inl ⟨by rfl, ?_⟩) (by assumption) ?_; rotate_left; (focus (intro w hSw; (try dsimp only at hSw); go_simp; (try with_reducible rfl))); (simp only [put_lit, List.set]))
          refine wpAnyH_ready (rs := [2]) (by kernel_rfl) (by simp) ?_
          refine AllReadyH.cons rfl (fun K hK => ?_) AllReadyH.nil; go_simp
          refine (lead_any _ _ _ _ _ ?_ hsg (by omega)).mono ?_
          · exact HG.out.below ikAt (by (repeat (first | exact Below.refl _ _ | refine Below.drew ?_ | refine Below.alloc ?_ (by first | (simp; done) | (simp; omega) | omega) _ | refine Below.setCell ?_ (by first | (simp; done) | (simp; omega) | omega) _)))
          rintro e w8 ⟨n8, A8, l8, c8, rfl, h8, hb8⟩
          rw [← HL.out] at h8
          obtain ⟨hcx, hfx⟩ := bcellS hb8
          have HX8 := Lib.hid (HX.out.move (Below.trans (by (repeat (first | exact Below.refl _ _ | refine Below.drew ?_ | refine Below.alloc ?_ (by first | (simp; done) | (simp; omega) | omega) _ | refine Below.setCell ?_ (by first | (simp; done) | (simp; omega) | omega) _))) (hb8.mono (by simp <;> omega))))
          have Hb8 := Lib.hid (Hbw.out.trans ((Below.trans (by (repeat (first | exact Below.refl _ _ | refine Below.drew ?_ | refine Below.alloc ?_ (by first | (simp; done) | (simp; omega) | omega) _ | refine Below.setCell ?_ (by first | (simp; done) | (simp; omega) | omega) _))) (hb8.mono (by simp <;> omega))).mono Hbw.out.size))
          refine hK.out _ _ ?_ (fun _ => ?_)
          · ((try dsimp only); repeat' apply And.intro) <;> (rw [hcx _ (by go_simp)]; go_simp)
          clear hHeld hK K hcx hfx; rename_i hHeld
          refine wpAnyH_ready (rs := [3]) (by kernel_rfl) (by simp) ?_
          refine AllReadyH.cons rfl (fun K hK => ?_) AllReadyH.nil; go_simp
          refine (imul_any _ _ _ _ _ _ _ _ _ _ _ ?_ ?_ fk hLf.sm mk).mono ?_
          · exact HX8.out.hz.at_.below (by (repeat (first | exact Below.refl _ _ | refine Below.drew ?_ | refine Below.alloc ?_ (by first | (simp; done) | (simp; omega) | omega) _ | refine Below.setCell ?_ (by first | (simp; done) | (simp; omega) | omega) _)))
          · exact h8.at_.below (by (repeat (first | exact Below.refl _ _ | refine Below.drew ?_ | refine Below.alloc ?_ (by first | (simp; done) | (simp; omega) | omega) _ | refine Below.setCell ?_ (by first | (simp; done) | (simp; omega) | omega) _)))
          rintro e w9 ⟨n9, A9, l9, c9, rfl, h9, hb9⟩
          obtain ⟨hcx, hfx⟩ := bcellS hb9
          have hS9 := HX8.out.move (Below.trans (by (repeat (first | exact Below.refl _ _ | refine Below.drew ?_ | refine Below.alloc ?_ (by first | (simp; done) | (simp; omega) | omega) _ | refine Below.setCell ?_ (by first | (simp; done) | (simp; omega) | omega) _))) (hb9.mono (by simp <;> omega)))
          have Hb9 := Lib.hid (Hb8.out.trans ((Below.trans (by (repeat (first | exact Below.refl _ _ | refine Below.drew ?_ | refine Below.alloc ?_ (by first | (simp; done) | (simp; omega) | omega) _ | refine Below.setCell ?_ (by first | (simp; done) | (simp; omega) | omega) _))) (hb9.mono (by simp <;> omega))).mono Hb8.out.size))
          refine hK.out _ _ ?_ (fun _ => ?_)
          · ((try dsimp only); repeat' apply And.intro) <;> (rw [hcx _ (by go_simp)]; go_simp)
          clear hHeld hK K hcx hfx; rename_i hHeld
          refine wpAnyH_done (by kernel_rfl) (lastQ_list rfl ?_) _
          have HP := Lib.hid (hS9.put h9)
          have p0 := hS9.c0
          have p1 := hS9.c1
          have p2 := hS9.f0
          have p3 := hS9.f1
          clear hHeld hS9 h9 h8 hb8 hb9
          go_wp2
          go_roundw
          case rel => exact ⟨k + 1, _, _, _, _, by omega, by go_num, by rw [Int.pow_succ]; exact HP.out, (Hb9.out.setCell (p := ⟨w7.heap.size, 0, none⟩) (Nat.le_refl _) _).setCell (p := ⟨w7.heap.size, 1, none⟩) (Nat.le_refl _) _⟩
          case measure => simp [intOf]; omega
        · have hk2 : m = k := by omega
          subst hk2
          have hkm : ¬ (m : Int) < (m : Int) := by omega
          have Hf8 := Lib.hid (Hf7.out.below ikAt Hbw.out)
          have Hg8 := Lib.hid (Hg7.out.below ikAt Hbw.out)
          have Hq8 := Lib.hid (Hq7.out.below ikN Hbw.out)
          have Hr8 := Lib.hid (Hr7.out.below ikN Hbw.out)
          have Hb8 := Lib.hid (Hb7.out.trans (Hbw.out.mono Hb7.out.size))
          have fm := hLp.out m hm10
          have hsr : SmP (psc (L ^ m) f) := by rw [HL.out]; exact OK.out.scSm hm10
          clear Hf7 Hg7 Hq7 Hr7 Hb7 Hbw
          go_wp2_with fail
          refine (scale_any ikAt _ _ _ _ _ _ _ _ _ _ Hf8.out HX.out.hz hsf fm.sm (fun k => fm.mulok _) hsr (by omega)).mono ?_
          rintro e w9 ⟨A9, l9, c9, rfl, h9, hb9⟩
          have Hg9 := Lib.hid (Hg8.out.below ikAt hb9)
          have Hq9 := Lib.hid (Hq8.out.below ikN hb9)
          have Hr9 := Lib.hid (Hr8.out.below ikN hb9)
          have Hl9 := Lib.hid h9
          have Hb9 := Lib.hid (Hb8.out.trans (hb9.mono Hb8.out.size))
          clear hb9 Hg8 Hq8 Hr8 Hb8 Hf8 HX x0 x1 x2 x3 h9
          have hq1 : l1 ≤ 10 := by have h1 := Hq9.out.length; have h2 := psq_len f g; have h3 := OK.out.lf; omega
          have hr1 : l2 ≤ 10 := by have h1 := Hr9.out.length; have h2 := psr_len f g; have h3 := OK.out.lf; omega
          have hl1 : l9 ≤ 10 := by have h1 := Hl9.out.length; rw [ptrim_length] at h1; have h2 := plen_le (psc (L ^ m) f); rw [show (psc (L ^ m) f).length = f.length by unfold psc; rw [List.length_map]] at h2; omega
          have hlq : (psq f g).length + g.length ≤ 1000000 := by have h1 := Hq9.out.length; omega
          go_wp2_with fail
          refine (polymul_any ikN ikAt _ _ _ _ _ _ _ _ _ Hq9.out Hg9.out OK.out.fitq fitg (by omega) (by omega)).mono ?_
          rintro e w10 ⟨A10, l10, c10, rfl, h10, hb10⟩
          have Hg10 := Lib.hid (Hg9.out.below ikAt hb10)
          have Hr10 := Lib.hid (Hr9.out.below ikN hb10)
          have Hl10 := Lib.hid (Hl9.out.below ikN hb10)
          have Hp10 := Lib.hid h10
          have Hb10 := Lib.hid (Hb9.out.trans (hb10.mono Hb9.out.size))
          have sp := Lib.hid ((OK.out.prod hlq).smp (k := 81) (mulpow_lt (by omega)) (by omega))
          have ss := Lib.hid (OK.out.sum hlq)
          have hlp : l10 ≤ 20 := by
            have h1 := h10.length
            have h2 : (polymul (ptrim (psq f g)) (ptrim g)).length ≤ 20 := by
              unfold polymul
              split
              · simp
              · rw [pmul_length, ptrim_length, ptrim_length]; have h3 := plen_le (psq f g); have h4 := Hq9.out.length; omega
            omega
          clear hb10 h10 Hg9 Hr9 Hl9 Hq9 Hb9
          obtain ⟨P, hP⟩ : ∃ P, P = polymul (ptrim (psq f g)) (ptrim g) := ⟨_, rfl⟩
          obtain ⟨R, hR⟩ : ∃ R, R = psr f g := ⟨_, rfl⟩
          have hsr2 : SmP R := by rw [hR]; exact OK.out.fitr.smp
          rw [← hP] at Hp10 sp ss
          rw [← hR] at Hr10 ss
          have hsame : ptrim (ptrim (psc (L ^ m) f)) = ptrim (ptrim (padd P R)) := by rw [hP, hR, HL.out]; exact id_same f g OK.out.one m Hm.out
          have hdeg : plen R < plen g := by rw [hR]; exact psr_plen f g OK.out.one
          have HS := Lib.hid hsame
          have hPl : P.length = l10 := Hp10.out.length
          have hRl : R.length = l2 := Hr10.out.length
          have hsum : SmP (padd P R) := fun c hc => by
            obtain ⟨k, hk⟩ := List.getElem?_of_mem hc
            have e1 : (padd P R).getD k 0 = c := by rw [List.getD_eq_getElem?_getD, hk]; rfl
            rw [padd_get] at e1
            rw [← e1]
            exact (ss.out k).mono (Int.natAbs_add_le _ _)
          clear hP hR hsame
          go_wp2_with fail
          refine (polyadd_any ikN ikN _ _ _ _ _ _ _ _ _ Hp10.out Hr10.out sp.out hsr2 ss.out (by omega) (by omega)).mono ?_
          rintro e w11 ⟨A11, l11, c11, rfl, h11, hb11⟩
          have Hg11 := Lib.hid (Hg10.out.below ikAt hb11)
          have Hr11 := Lib.hid (Hr10.out.below ikN hb11)
          have Hl11 := Lib.hid (Hl10.out.below ikN hb11)
          have Hs11 := Lib.hid h11
          have Hb11 := Lib.hid (Hb10.out.trans (hb11.mono Hb10.out.size))
          have hls : l11 ≤ 30 := by have h1 := h11.length; rw [ptrim_length] at h1; have h2 := plen_le (padd P R); rw [padd_length] at h2; omega
          clear hb11 h11 Hg10 Hr10 Hl10 Hp10 Hb10
          go_wp2_with fail
          refine (same_any ikN ikN _ _ _ _ _ _ _ _ _ Hl11.out Hs11.out hsr.ptrim hsum.ptrim (by omega) (by omega)).mono ?_
          rintro e w12 ⟨he, hb12⟩
          rw [decide_eq_true HS.out] at he
          subst he
          have Hg12 := Lib.hid (Hg11.out.below ikAt hb12)
          have Hr12 := Lib.hid (Hr11.out.below ikN hb12)
          have Hb12 := Lib.hid (Hb11.out.trans (hb12.mono Hb11.out.size))
          clear hb12 Hg11 Hr11 Hl11 Hs11 Hb11
          go_wp2_with fail
          refine (degree_any _ _ _ _ _ (Hr12.out.at_ ikN) hsr2 (by omega)).mono ?_
          rintro e w13 ⟨rfl, hb13⟩
          have Hg13 := Lib.hid (Hg12.out.below ikAt hb13)
          have Hb13 := Lib.hid (Hb12.out.trans (hb13.mono Hb12.out.size))
          clear hb13 Hg12 Hr12 Hb12
          go_wp2_with fail
          refine (degree_any _ _ _ _ _ Hg13.out hsg (by omega)).mono ?_
          rintro e w14 ⟨rfl, hb14⟩
          have Hb14 := Lib.hid (Hb13.out.trans (hb14.mono Hb13.out.size))
          have hd2 : ((plen R : Nat) : Int) - 1 < (dg : Int) := by omega
          clear hb14 Hg13 Hb13
          go_wp2
          go_ret
          exact ⟨rfl, Hb14.out⟩
end Go.Proofs.Ytfpliceenjbclaa
