/- The walk of the law UnidivSubresultants: it answers true, and only makes new memory. -/
import Derived.Test.YtgblfpkfapmlnaaGreatFew
import Derived.Test.YtgblfpkfapmlnaaGreatSrf
import Derived.Test.YtgblfpkfapmlnaaGreatSbr
import Derived.Test.YtgblfpkfapmlnaaGreatBtr
namespace Go.Proofs.YtgblfpkfapmlnaaGreat
open Go.RowKit

set_option maxRecDepth 100000 in
set_option maxHeartbeats 1000000 in
/-- no sequence for 0, and none where the first is the shorter -/
theorem subres_none {I J : IntPred} (hI : IK I) (hJ : IK J) (A : Option Addr) (la ca : Nat) (f : List Int) (B : Option Addr) (lb cb : Nat) (g : List Int) (w : World) (hf : PolyP I w A la ca f) (hg : PolyP J w B lb cb g) (hla : la ≤ 1000) (hlb : lb ≤ 1000) (f7 : Few7 f) (g7 : Few7 g) (h0 : plen g = 0 ∨ plen f < plen g) :
    Calls Tryz.prog 9 #[.slice A la ca, .slice B lb cb] w fun e w' => e = .returned (.tuple #[.slice none 0 0, .int .i64 1]) ∧ Below w.heap.size w w' := by
  have HF := Lib.hid (hf.at_ hI)
  have HG := Lib.hid (hg.at_ hJ)
  have F7 := Lib.hid f7
  have G7 := Lib.hid g7
  clear hf hg f7 g7
  obtain ⟨pg, hpg⟩ : ∃ pg, pg = plen g := ⟨_, rfl⟩
  obtain ⟨pf, hpf⟩ : ∃ pf, pf = plen f := ⟨_, rfl⟩
  rw [← hpg, ← hpf] at h0
  have Hpg := Lib.hid hpg
  have Hpf := Lib.hid hpf
  clear hpg hpf
  by_cases g0 : pg = 0
  · subst g0
    go_enter Tryz.func9, Tryz.ntmps9
    go_wp2_with fail
    refine (degree_any _ _ _ g _ HG.out G7.out.fit.smp (by omega)).mono ?_
    rintro e w1 ⟨rfl, hb1⟩
    rw [← Hpg.out]
    have Hb1 := Lib.hid hb1
    clear hb1 HF HG
    go_wp2
    exact bodyPost_ret (v := .tuple #[.slice none 0 0, .int .i64 1]) (by simp [results, Tryz.results9, go_sem]) rfl ⟨rfl, Hb1.out⟩
  · have h1 : pf < pg := by omega
    have t1 : decide ((pg : Int) - 1 < 0) = false := decide_eq_false (by omega)
    have t2 : (pf : Int) - 1 < (pg : Int) - 1 := by omega
    go_enter Tryz.func9, Tryz.ntmps9
    go_wp2_with fail
    refine (degree_any _ _ _ g _ HG.out G7.out.fit.smp (by omega)).mono ?_
    rintro e w1 ⟨rfl, hb1⟩
    rw [← Hpg.out]
    have HF1 := Lib.hid (HF.out.below ikAt hb1)
    have HG1 := Lib.hid (HG.out.below ikAt hb1)
    have Hb1 := Lib.hid hb1
    clear hb1 HF HG
    go_wp2_with fail
    refine (degree_any _ _ _ f _ HF1.out F7.out.fit.smp (by omega)).mono ?_
    rintro e w2 ⟨rfl, hb2⟩
    rw [← Hpf.out]
    have HG2 := Lib.hid (HG1.out.below ikAt hb2)
    have Hb2 := Lib.hid (Hb1.out.trans (hb2.mono Hb1.out.size))
    clear hb2 HF1 HG1 Hb1
    go_wp2_with fail
    refine (degree_any _ _ _ g _ HG2.out G7.out.fit.smp (by omega)).mono ?_
    rintro e w3 ⟨rfl, hb3⟩
    rw [← Hpg.out]
    have Hb3 := Lib.hid (Hb2.out.trans (hb3.mono Hb2.out.size))
    clear hb3 HG2 Hb2
    go_wp2
    exact bodyPost_ret (v := .tuple #[.slice none 0 0, .int .i64 1]) (by simp [results, Tryz.results9, go_sem]) rfl ⟨rfl, Hb3.out⟩

theorem sb_dl {f : List Int} (h : Few7 f) (j : Nat) : dlen (f.getD j 0).natAbs ≤ 1000 := Nat.le_trans (dlen_le_of_lt (k := 3) (Nat.lt_of_le_of_lt (h.2 j) (by rw [BB_eq]; decide +kernel))) (by decide)
theorem fitp_zb {p : List Int} (h : FitP p) : ZB 1000000 p := fun j => Nat.le_trans (bln_pow (fit_pow (h j))) (by have := e40; omega)
set_option maxRecDepth 100000 in
set_option maxHeartbeats 8000000 in
theorem law_subres (A : Option Addr) (la ca : Nat) (f : List Int) (B : Option Addr) (lb cb : Nat) (g : List Int) (w : World) (hf : PolyP IntR w A la ca f) (hg : PolyP IntR w B lb cb g) :
    Calls Tryz.prog 3 #[.slice A la ca, .slice B lb cb] w fun e w' => e = .returned (.bool true) ∧ Below w.heap.size w w' := by
  go_enter Tryz.func3, Tryz.ntmps3
  go_wp2_with fail
  refine (awake9_any _).mono ?_
  rintro e w1 ⟨rfl, hb1⟩
  have hf1 := PolyR.below hf hb1
  have hg1 := PolyR.below hg hb1
  have Hb := Lib.hid hb1
  clear hf hg hb1
  go_wp2_with fail
  refine (few_any 6 1 _ _ _ _ _ _ _ _ _ hf1 hg1 (by omega) (by omega)).mono ?_
  rintro e w2 ⟨⟨b, rfl, hq⟩, rfl⟩
  clear hf1 hg1
  cases b with
  | false =>
    clear hq
    go_wp2_with fail
    refine (awake9_any _).mono ?_
    rintro e w3 ⟨rfl, hb3⟩
    replace Hb := Lib.hid (Hb.out.trans (hb3.mono Hb.out.size))
    clear hb3
    go_wp2; go_ret; exact ⟨rfl, Hb.out⟩
  | true =>
    obtain ⟨qf, qg⟩ := hq rfl
    have hla := qf.le
    have hlb := qg.le
    have hf2 := qf.at_
    have hg2 := qg.at_
    have lf : f.length = la := hf2.length
    have lg : g.length = lb := hg2.length
    have hpf := plen_le f
    have hpg := plen_le g
    have f7 : Few7 f := ⟨by omega, fun j => by have := qf.lt j; rw [Nat.pow_one, BB_eq] at this; omega⟩
    have g7 : Few7 g := ⟨by omega, fun j => by have := qg.lt j; rw [Nat.pow_one, BB_eq] at this; omega⟩
    have F7 := Lib.hid f7
    have G7 := Lib.hid g7
    have HF := Lib.hid hf2
    have HG := Lib.hid hg2
    have pfb : plen f ≤ 7 := f7.1
    have pgb : plen g ≤ 7 := g7.1
    clear hq qf qg hf2 hg2 lf lg hpf hpg f7 g7
    go_wp2_with fail
    refine (lof_any ikAt _ _ _ f _ HF.out (by omega) (sb_dl F7.out)).mono ?_
    rintro e w4 ⟨A4, l4, c4, rfl, h4, _, hb4⟩
    have hl4 : l4 = plen f := by rw [← h4.length, ptrim_length]
    subst hl4
    have HX := Lib.hid h4
    replace HF := Lib.hid (HF.out.below ikAt hb4); replace HG := Lib.hid (HG.out.below ikAt hb4); replace Hb := Lib.hid (Hb.out.trans (hb4.mono Hb.out.size))
    clear h4 hb4
    go_wp2_with fail
    refine (lof_any ikAt _ _ _ g _ HG.out (by omega) (sb_dl G7.out)).mono ?_
    rintro e w5 ⟨A5, l5, c5, rfl, h5, _, hb5⟩
    have hl5 : l5 = plen g := by rw [← h5.length, ptrim_length]
    subst hl5
    have HY := Lib.hid h5
    replace HX := Lib.hid (HX.out.below hb5)
    replace HF := Lib.hid (HF.out.below ikAt hb5); replace HG := Lib.hid (HG.out.below ikAt hb5); replace Hb := Lib.hid (Hb.out.trans (hb5.mono Hb.out.size))
    clear h5 hb5
    go_wp2_with fail
    by_cases h0 : plen g = 0 ∨ plen f < plen g
    · refine (subres_none ikAt ikAt _ _ _ f _ _ _ g _ HF.out HG.out (by omega) (by omega) F7.out G7.out h0).mono ?_
      rintro e w6 ⟨rfl, hb6⟩
      replace Hb := Lib.hid (Hb.out.trans (hb6.mono Hb.out.size))
      clear hb6 HF HG HX HY
      by_cases g0 : plen g = 0
      · have t1 : (((plen g : Nat) : Int) == 0) = true := by rw [beq_iff_eq]; omega
        clear h0 g0
        go_wp2; go_ret; exact ⟨rfl, Hb.out⟩
      · have t1 : (((plen g : Nat) : Int) == 0) = false := by rw [beq_eq_false_iff_ne]; omega
        have t2 : ((plen f : Nat) : Int) < ((plen g : Nat) : Int) := by omega
        clear h0 g0
        go_wp2; go_ret; exact ⟨rfl, Hb.out⟩
    · have g0 : plen g ≠ 0 := by omega
      have hfg : plen g ≤ plen f := by omega
      have t1 : (((plen g : Nat) : Int) == 0) = false := by rw [beq_eq_false_iff_ne]; omega
      have t2 : ¬ ((plen f : Nat) : Int) < ((plen g : Nat) : Int) := by omega
      obtain ⟨q1, _, _, q4⟩ := few7_sq F7.out G7.out g0 hfg
      have Q1 := Lib.hid q1
      have G0 := Lib.hid g0
      have Hfg := Lib.hid hfg
      have hnb : (rseq 20 f g).length ≤ 22 := rseq_length 20 f g
      obtain ⟨L, hL⟩ : ∃ L, L = rseq 20 f g := ⟨_, rfl⟩
      obtain ⟨n, hn⟩ : ∃ n, n = L.length := ⟨_, rfl⟩
      rw [← hL, ← hn] at hnb
      rw [← hL] at q4
      rw [← hn] at q4
      have Q4 := Lib.hid q4
      have HL := Lib.hid hL
      have Hn := Lib.hid hn
      clear q1 q4 hL hn h0 g0
      refine (subres_any ikAt ikAt _ _ _ f _ _ _ g _ HF.out HG.out (by omega) (by omega) (by have := G0.out; omega) hfg 20 F7.out.fit G7.out.fit Q1.out (by decide)).mono ?_
      rintro e w6 ⟨A6, c6, rfl, h6, hb6⟩
      rw [← HL.out, ← Hn.out] at h6 ⊢
      have HS := Lib.hid h6
      replace HX := Lib.hid (HX.out.below hb6)
      replace HY := Lib.hid (HY.out.below hb6)
      replace Hb := Lib.hid (Hb.out.trans (hb6.mono Hb.out.size))
      clear h6 hb6 HF HG hfg
      go_wp2_with fail
      refine (zsr_any _ _ _ f _ _ _ g _ HX.out HY.out F7.out G7.out G0.out Hfg.out).mono ?_
      rintro e w7 ⟨v, gp, rfl, h7, hb7⟩
      rw [← HL.out] at h7
      obtain ⟨g9, cap9, rfl, hcap, hg9, hels⟩ := h7.at_
      rw [← Hn.out] at hels hcap ⊢
      have HE := Lib.hid hels
      replace HS := Lib.hid (HS.out.below hb7)
      replace Hb := Lib.hid (Hb.out.trans (hb7.mono Hb.out.size))
      clear h7 hb7 hels HX HY t1 t2
      go_wp2_with fail
      go_loopw [10] (fun s10 wr => ∃ k : Nat, k ≤ n ∧ s10 = .int .i64 (k : Int) ∧ Below w7.heap.size w7 wr) (fun s10 _ => n - (intOf s10).toNat)
      case atStart => exact ⟨0, Nat.zero_le _, rfl, Below.refl _ _⟩
      case round =>
        obtain ⟨k, hk, rfl, hbw⟩ := hrel
        have hws := hbw.size
        have Hbw := Lib.hid hbw
        by_cases hlt : k < n
        · have t4 : (k : Int) < (n : Int) := by omega
          obtain ⟨b6, o6, rfl, hb6, hc6⟩ := HS.out.at_ (by omega)
          obtain ⟨Aa, xa, ya, ea, pa⟩ := hc6 k hlt
          obtain ⟨Ab, xb, yb, eb, pb⟩ := HE.out k hlt
          have ea := (hbw.cell (p := ⟨b6, o6 + k, none⟩) hb6).trans ea
          have eb := (hbw.cell (p := ⟨g9, k, none⟩) hg9).trans eb
          obtain ⟨pk, hpk⟩ : ∃ p, p = L.getD k [] := ⟨_, rfl⟩
          have hfit := Q4.out k hlt
          rw [← hpk] at pa pb hfit
          have hxa : xa ≤ 7 := by rw [← pa.length]; exact hfit.2
          have PA := Lib.hid (pa.below ikN hbw)
          have PB := Lib.hid (pb.below hbw)
          have Hz := Lib.hid (fitp_zb hfit.1)
          clear hc6 pa pb hbw hpk hfit
          go_wp2_with fail
          refine wp_region_held_drew (S := fun w' => w'.cell? ⟨b6, o6 + k, none⟩ = some (.slice Aa xa ya) ∧ w'.cell? ⟨g9, k, none⟩ = some (.slice Ab xb yb)) (by kernel_rfl) (by (try dsimp only); go_keep) (fun hHeld => ?_)
          (refine take_at (i := 0) (oi := _) (v := ?_) rfl rfl (by kernel_rfl) (by kernel_rfl) (by kernel_rfl) (fun _ _ _ h => h) (Or.inl ⟨by rfl, ?_⟩) (by assumption) ?_; rotate_left; (focus (intro w hSw; (try dsimp only at hSw); go_simp; (try with_reducible rfl))); (simp only [put_lit, List.set]))
          (refine take_at (i := 1) (oi := _) (v := ?_) rfl rfl (by kernel_rfl) (by kernel_rfl) (by kernel_rfl) (fun _ _ _ h => h) (Or.inl ⟨by rfl, ?_⟩) (by assumption) ?_; rotate_left; (focus (intro w hSw; (try dsimp only at hSw); go_simp; (try with_reducible rfl))); (simp only [put_lit, List.set]))
          (refine take_at (i := 2) (oi := _) (v := ?_) rfl rfl (by kernel_rfl) (by kernel_rfl) (by kernel_rfl) (fun _ _ _ h => h) (Or.inl ⟨by rfl, ?_⟩) (by assumption) ?_; rotate_left; (focus (intro w hSw; (try dsimp only at hSw); go_simp; (try with_reducible rfl))); (simp only [put_lit, List.set]))
          (refine take_at (i := 3) (oi := _) (v := ?_) rfl rfl (by kernel_rfl) (by kernel_rfl) (by kernel_rfl) (fun _ _ _ h => h) (Or.inl ⟨by rfl, ?_⟩) (by assumption) ?_; rotate_left; (focus (intro w hSw; (try dsimp only at hSw); go_simp; (try with_reducible rfl))); (simp only [put_lit, List.set]))
          (refine take_at (i := 4) (oi := _) (v := ?_) rfl rfl (by kernel_rfl) (by kernel_rfl) (by kernel_rfl) (fun _ _ _ h => h) (Or.inl ⟨by rfl, ?_⟩) (by assumption) ?_; rotate_left; (focus (intro w hSw; (try dsimp only at hSw); go_simp; (try with_reducible rfl))); (simp only [put_lit, List.set]))
          (refine take_at (i := 5) (oi := _) (v := ?_) rfl rfl (by kernel_rfl) (by kernel_rfl) (by kernel_rfl) (fun _ _ _ h => h) (Or.inl ⟨by rfl, ?_⟩) (by assumption) ?_; rotate_left; (focus (intro w hSw; (try dsimp only at hSw); go_simp; (try with_reducible rfl))); (simp only [put_lit, List.set]))
          (refine take_at (i := 6) (oi := _) (v := ?_) rfl rfl (by kernel_rfl) (by kernel_rfl) (by kernel_rfl) (fun _ _ _ h => h) (Or.inl ⟨by rfl, ?_⟩) (by assumption) ?_; rotate_left; (focus (intro w hSw; (try dsimp only at hSw); go_simp; (try with_reducible rfl))); (simp only [put_lit, List.set]))
          (refine take_at (i := 7) (oi := _) (v := ?_) rfl rfl (by kernel_rfl) (by kernel_rfl) (by kernel_rfl) (fun _ _ _ h => h) (Or.inl ⟨by rfl, ?_⟩) (by assumption) ?_; rotate_left; (focus (intro w hSw; (try dsimp only at hSw); go_simp; (try with_reducible rfl))); (simp only [put_lit, List.set]))
          refine wpAnyH_ready (rs := [8]) (by kernel_rfl) (by simp) ?_
          refine AllReadyH.cons rfl (fun K hK => ?_) AllReadyH.nil; go_simp
          refine (lis_any _ _ _ pk _ _ _ _ (PA.out.below ikN (by (repeat (first | exact Below.refl _ _ | refine Below.drew ?_ | refine Below.alloc ?_ (by first | (simp; done) | (simp; omega) | omega) _ | refine Below.setCell ?_ (by first | (simp; done) | (simp; omega) | omega) _)))) (PB.out.below (by (repeat (first | exact Below.refl _ _ | refine Below.drew ?_ | refine Below.alloc ?_ (by first | (simp; done) | (simp; omega) | omega) _ | refine Below.setCell ?_ (by first | (simp; done) | (simp; omega) | omega) _)))) (by omega) Hz.out).mono ?_
          rintro e w8 ⟨rfl, hb8⟩
          obtain ⟨hcx, hfx⟩ := bcellS hb8
          have hb9 : Below wr.heap.size wr w8 := (Below.trans (by (repeat (first | exact Below.refl _ _ | refine Below.drew ?_ | refine Below.alloc ?_ (by first | (simp; done) | (simp; omega) | omega) _ | refine Below.setCell ?_ (by first | (simp; done) | (simp; omega) | omega) _))) (hb8.mono (by simp <;> omega)))
          have Hb9 := Lib.hid (Hbw.out.trans (hb9.mono hws))
          refine hK.out _ _ ?_ (fun _ => ?_)
          · ((try dsimp only); repeat' apply And.intro) <;> (rw [hcx _ (by go_simp)]; go_simp)
          clear hHeld hK K hcx hfx; rename_i hHeld
          clear hb8 hb9
          (refine take_at (i := 9) (oi := _) (v := ?_) rfl rfl (by kernel_rfl) (by kernel_rfl) (by kernel_rfl) (fun _ _ _ h => h) (Or.inl ⟨by rfl, ?_⟩) (by assumption) ?_; rotate_left; (focus (intro w hSw; (try dsimp only at hSw); go_simp; (try with_reducible rfl))); (simp only [put_lit, List.set]))
          refine wpAnyH_done (by kernel_rfl) ?_ _
          clear hHeld
          go_wp2_with fail
          go_roundw
          case rel => exact ⟨k + 1, by omega, by go_num, Hb9.out⟩
          case measure => simp [intOf]; omega
        · have hkM : k = n := by omega
          subst hkM
          have t4 : ¬ (k : Int) < (k : Int) := by omega
          replace Hb := Lib.hid (Hb.out.trans (Hbw.out.mono Hb.out.size))
          clear hbw
          go_wp2
          go_ret
          exact ⟨rfl, Hb.out⟩
end Go.Proofs.YtgblfpkfapmlnaaGreat
