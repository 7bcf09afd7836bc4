/- The walk of the law UnidivLast: it answers true, and only makes new memory. -/
import Derived.Test.YtgblfpkfapmlnaaFew
import Derived.Test.YtgblfpkfapmlnaaLsp
import Derived.Test.YtgblfpkfapmlnaaSbr
import Derived.Test.YtgblfpkfapmlnaaCmp
namespace Go.Proofs.Ytgblfpkfapmlnaa
open Go.RowKit

theorem ptrim_pprim (f : List Int) : ptrim (pprim f) = pprim f := gp_trim f
set_option maxRecDepth 100000 in
set_option maxHeartbeats 8000000 in
theorem law_last (A : Option Addr) (la ca : Nat) (f : List Int) (B : Option Addr) (lb cb : Nat) (g : List Int) (w : World) (hf : PolyP IntR w A la ca f) (hg : PolyP IntR w B lb cb g) :
    Calls Try.prog 6 #[.slice A la ca, .slice B lb cb] w fun e w' => e = .returned (.bool true) ∧ Below w.heap.size w w' := by
  go_enter Try.func6, Try.ntmps6
  go_wp2_with fail
  refine (awake9_any _).mono ?_
  rintro e w1 ⟨rfl, hb1⟩
  have hf1 := PolyR.below hf hb1
  have hg1 := PolyR.below hg hb1
  have Hb1 := Lib.hid hb1
  clear hf hg hb1
  go_wp2_with fail
  refine (few_any 6 1 _ _ _ _ _ _ _ _ _ hf1 hg1 (by omega) (by omega)).mono ?_
  rintro e w2 ⟨⟨b, rfl, hq⟩, rfl⟩
  clear hf1 hg1
  cases b with
  | false =>
    clear hq
    go_wp2_with fail
    refine (awake9_any _).mono ?_
    rintro e w3 ⟨rfl, hb3⟩
    have Hb3 := Lib.hid (Hb1.out.trans (hb3.mono Hb1.out.size))
    clear hb3 Hb1
    go_wp2
    go_ret
    exact ⟨rfl, Hb3.out⟩
  | true =>
    obtain ⟨qf, qg⟩ := hq rfl
    have hla := qf.le
    have hlb := qg.le
    have hf2 := qf.at_
    have hg2 := qg.at_
    have lf : f.length = la := hf2.length
    have lg : g.length = lb := hg2.length
    have hpf := plen_le f
    have hpg := plen_le g
    have f7 : Few7 f := ⟨by omega, fun j => by have := qf.lt j; rw [Nat.pow_one, BB_eq] at this; omega⟩
    have g7 : Few7 g := ⟨by omega, fun j => by have := qg.lt j; rw [Nat.pow_one, BB_eq] at this; omega⟩
    have F7 := Lib.hid f7
    have G7 := Lib.hid g7
    have HF := Lib.hid hf2
    have HG := Lib.hid hg2
    have HD := Lib.hid (gres_dt f7 g7)
    have Hcl := Lib.hid (gres_is (few7_ga f7 g7))
    obtain ⟨pf, hpf'⟩ : ∃ pf, pf = plen f := ⟨_, rfl⟩
    obtain ⟨pg, hpg'⟩ : ∃ pg, pg = plen g := ⟨_, rfl⟩
    have Hpf := Lib.hid hpf'
    have Hpg := Lib.hid hpg'
    have pfb : pf ≤ 6 := by omega
    have pgb : pg ≤ 6 := by omega
    clear hq qf qg hf2 hg2 lf lg hpf hpg f7 g7 hpf' hpg'
    go_wp2_with fail
    refine (degree_any _ _ _ f _ (HF.out.at_ ikAt) F7.out.fit.smp (by omega)).mono ?_
    rintro e w3 ⟨rfl, hb3⟩
    rw [← Hpf.out]
    have HF3 := Lib.hid (HF.out.below ikAt hb3)
    have HG3 := Lib.hid (HG.out.below ikAt hb3)
    have Hb3 := Lib.hid (Hb1.out.trans (hb3.mono Hb1.out.size))
    clear hb3 HF HG Hb1
    go_wp2_with fail
    refine (degree_any _ _ _ g _ (HG3.out.at_ ikAt) G7.out.fit.smp (by omega)).mono ?_
    rintro e w4 ⟨rfl, hb4⟩
    rw [← Hpg.out]
    have HF4 := Lib.hid (HF3.out.below ikAt hb4)
    have HG4 := Lib.hid (HG3.out.below ikAt hb4)
    have Hb4 := Lib.hid (Hb3.out.trans (hb4.mono Hb3.out.size))
    clear hb4 HF3 HG3 Hb3
    by_cases hcmp : pf < pg
    · have t1 : (pf : Int) - 1 < (pg : Int) - 1 := by omega
      go_wp2_with fail
      refine (awake9_any _).mono ?_
      rintro e w5 ⟨rfl, hb5⟩
      have Hb5 := Lib.hid (Hb4.out.trans (hb5.mono Hb4.out.size))
      clear hb5 Hb4
      go_wp2
      go_ret
      exact ⟨rfl, Hb5.out⟩
    have t1 : ¬ ((pf : Int) - 1 < (pg : Int) - 1) := by omega
    go_wp2_with fail
    refine (degree_any _ _ _ g _ (HG4.out.at_ ikAt) G7.out.fit.smp (by omega)).mono ?_
    rintro e w5 ⟨rfl, hb5⟩
    rw [← Hpg.out]
    have HF5 := Lib.hid (HF4.out.below ikAt hb5)
    have HG5 := Lib.hid (HG4.out.below ikAt hb5)
    have Hb5 := Lib.hid (Hb4.out.trans (hb5.mono Hb4.out.size))
    clear hb5 HF4 HG4 Hb4
    by_cases hg0 : pg = 0
    · subst hg0
      go_wp2_with fail
      refine (awake9_any _).mono ?_
      rintro e w6 ⟨rfl, hb6⟩
      have Hb6 := Lib.hid (Hb5.out.trans (hb6.mono Hb5.out.size))
      clear hb6 Hb5
      go_wp2
      go_ret
      exact ⟨rfl, Hb6.out⟩
    have t2 : ¬ ((pg : Int) - 1 < 0) := by omega
    have g0 : plen g ≠ 0 := by rw [← Hpg.out]; exact hg0
    have hfg : plen g ≤ plen f := by rw [← Hpg.out, ← Hpf.out]; omega
    obtain ⟨q1, q2, q3, q4⟩ := few7_sq F7.out G7.out g0 hfg
    have Q1 := Lib.hid q1
    obtain ⟨L, hL⟩ : ∃ L, L = rseq 20 f g := ⟨_, rfl⟩
    obtain ⟨n, hn⟩ : ∃ n, n = L.length := ⟨_, rfl⟩
    have hn2 : 2 ≤ n := by rw [hn, hL]; simp [rseq]
    have hnb : n ≤ 22 := by rw [hn, hL]; exact rseq_length 20 f g
    rw [← hL] at q2 q3 q4
    rw [← hn] at q2 q3 q4
    have Q2 := Lib.hid q2
    have Q3 := Lib.hid (q3 _ Hcl.out)
    have Q4 := Lib.hid q4
    have HL := Lib.hid hL
    have Hn := Lib.hid hn
    have G0 := Lib.hid (show 1 ≤ plen g by omega)
    have Hfg := Lib.hid hfg
    clear q1 q2 q3 q4 hL hn g0 hfg hcmp
    go_wp2_with fail
    refine (subres_any ikAt ikAt _ _ _ f _ _ _ g _ HF5.out HG5.out (by omega) (by omega) G0.out Hfg.out 20 F7.out.fit G7.out.fit Q1.out (by decide)).mono ?_
    rintro e w6 ⟨A6, c6, rfl, h6, hb6⟩
    rw [← HL.out] at h6 ⊢
    rw [← Hn.out] at h6 ⊢
    have HS := Lib.hid h6
    have HF6 := Lib.hid (HF5.out.below ikAt hb6)
    have HG6 := Lib.hid (HG5.out.below ikAt hb6)
    have Hb6 := Lib.hid (Hb5.out.trans (hb6.mono Hb5.out.size))
    have t3 : ¬ ((n : Int) < 2) := by omega
    clear h6 hb6 HF5 HG5 Hb5 t1 t2
    obtain ⟨b6, o6, rfl, hb6, hc6⟩ := HS.out.at_ (by omega)
    have Hc6 := Lib.hid hc6
    clear hc6
    go_wp2
    go_loopw [7] (fun s7 wr => ∃ i : Nat, i + 2 ≤ n ∧ s7 = .int .i64 ((i + 2 : Nat) : Int) ∧ Below w6.heap.size w6 wr) (fun s7 _ => n - (intOf s7).toNat)
    case atStart => exact ⟨0, by omega, rfl, Below.refl _ _⟩
    case round =>
      obtain ⟨i, hi, rfl, hbw⟩ := hrel
      have hws := hbw.size
      have Hbw := Lib.hid hbw
      obtain ⟨i2, hi2⟩ : ∃ i2 : Nat, i2 = i + 2 := ⟨_, rfl⟩
      rw [← hi2]
      by_cases hlt : i2 < n
      · have t4 : (i2 : Int) < (n : Int) := by omega
        have hT := Q2.out i (by omega)
        obtain ⟨Aa, la', ca', ea, pa⟩ := Hc6.out i (by omega)
        obtain ⟨Ab, lb', cb', eb, pb⟩ := Hc6.out (i + 1) (by omega)
        obtain ⟨Ac, lc', cc', ec, pc⟩ := Hc6.out (i + 2) (by omega)
        obtain ⟨pa', hpa⟩ : ∃ p, p = L.getD i [] := ⟨_, rfl⟩
        obtain ⟨pb', hpb⟩ : ∃ p, p = L.getD (i + 1) [] := ⟨_, rfl⟩
        obtain ⟨pc', hpc⟩ : ∃ p, p = L.getD (i + 2) [] := ⟨_, rfl⟩
        rw [← hpa, ← hpb, ← hpc] at hT
        rw [← hpa] at pa
        rw [← hpb] at pb
        rw [← hpc] at pc
        have ea := (hbw.cell (p := ⟨b6, o6 + i, none⟩) hb6).trans ea
        have eb := (hbw.cell (p := ⟨b6, o6 + (i + 1), none⟩) hb6).trans eb
        have ec := (hbw.cell (p := ⟨b6, o6 + (i + 2), none⟩) hb6).trans ec
        obtain ⟨i1, hi1⟩ : ∃ i1 : Nat, i1 = i + 1 := ⟨_, rfl⟩
        rw [← hi1] at eb
        rw [← hi2] at ec
        have k1 : (i2 : Int) - 2 = (i : Int) := by omega
        have k2 : (i2 : Int) - 1 = (i1 : Int) := by omega
        have w1 : IntKind.i64.wrap (i : Int) = (i : Int) := IntWalk.i64_in _ (by omega)
        have w2 : IntKind.i64.wrap (i1 : Int) = (i1 : Int) := IntWalk.i64_in _ (by omega)
        have x1 : (i : Int) < (n : Int) := by omega
        have x2 : (i1 : Int) < (n : Int) := by omega
        have la7 : la' ≤ 7 := by rw [← pa.length]; exact hT.la
        have lb7 : lb' ≤ 7 := by rw [← pb.length]; exact hT.lb
        have lc7 : lc' ≤ 7 := by rw [← pc.length]; exact hT.lc
        have PA := Lib.hid (pa.below ikN hbw)
        have PB := Lib.hid (pb.below ikN hbw)
        have PC := Lib.hid (pc.below ikN hbw)
        have HT := Lib.hid hT
        have Hi2 := Lib.hid hi2
        have n1 : i < n := by omega
        have n2 : i1 < n := by omega
        clear hpa hpb hpc pa pb pc hT hbw hi2 hi1
        go_wp2_with fail
        refine wp_region_held_drew (S := fun w' => w'.cell? ⟨b6, o6 + i, none⟩ = some (.slice Aa la' ca') ∧ w'.cell? ⟨b6, o6 + i1, none⟩ = some (.slice Ab lb' cb') ∧ w'.cell? ⟨b6, o6 + i2, none⟩ = some (.slice Ac lc' cc')) (by kernel_rfl) (by (try dsimp only); go_keep) (fun hHeld => ?_)
        (refine take_at (i := 0) (oi := _) (v := ?_) rfl rfl (by kernel_rfl) (by kernel_rfl) (by kernel_rfl) (fun _ _ _ h => h) (Or.inl ⟨by rfl, ?_⟩) (by assumption) ?_; rotate_left; (focus (intro w hSw; (try dsimp only at hSw); go_simp; (try with_reducible rfl))); (simp only [put_lit, List.set]))
        (refine take_at (i := 1) (oi := _) (v := ?_) rfl rfl (by kernel_rfl) (by kernel_rfl) (by kernel_rfl) (fun _ _ _ h => h) (Or.inl ⟨by rfl, ?_⟩) (by assumption) ?_; rotate_left; (focus (intro w hSw; (try dsimp only at hSw); go_simp; (try with_reducible rfl))); (simp only [put_lit, List.set]))
        (refine take_at (i := 2) (oi := _) (v := ?_) rfl rfl (by kernel_rfl) (by kernel_rfl) (by kernel_rfl) (fun _ _ _ h => h) (Or.inl ⟨by rfl, ?_⟩) (by assumption) ?_; rotate_left; (focus (intro w hSw; (try dsimp only at hSw); go_simp; (try with_reducible rfl))); (simp only [put_lit, List.set]))
        (refine take_at (i := 3) (oi := _) (v := ?_) rfl rfl (by kernel_rfl) (by kernel_rfl) (by kernel_rfl) (fun _ _ _ h => h) (Or.inl ⟨by rfl, ?_⟩) (by assumption) ?_; rotate_left; (focus (intro w hSw; (try dsimp only at hSw); go_simp; (try with_reducible rfl))); (simp only [put_lit, List.set]))
        (refine take_at (i := 4) (oi := _) (v := ?_) rfl rfl (by kernel_rfl) (by kernel_rfl) (by kernel_rfl) (fun _ _ _ h => h) (Or.inl ⟨by rfl, ?_⟩) (by assumption) ?_; rotate_left; (focus (intro w hSw; (try dsimp only at hSw); go_simp; (try with_reducible rfl))); (simp only [put_lit, List.set]))
        (refine take_at (i := 5) (oi := _) (v := ?_) rfl rfl (by kernel_rfl) (by kernel_rfl) (by kernel_rfl) (fun _ _ _ h => h) (Or.inl ⟨by rfl, ?_⟩) (by assumption) ?_; rotate_left; (focus (intro w hSw; (try dsimp only at hSw); go_simp; (try with_reducible rfl))); (simp only [put_lit, List.set]))
        (refine take_at (i := 6) (oi := _) (v := ?_) rfl rfl (by kernel_rfl) (by kernel_rfl) (by kernel_rfl) (fun _ _ _ h => h) (Or.inl ⟨by rfl, ?_⟩) (by assumption) ?_; rotate_left; (focus (intro w hSw; (try dsimp only at hSw); go_simp; (try with_reducible rfl))); (simp only [put_lit, List.set]))
        (refine take_at (i := 7) (oi := _) (v := ?_) rfl rfl (by kernel_rfl) (by kernel_rfl) (by kernel_rfl) (fun _ _ _ h => h) (Or.inl ⟨by rfl, ?_⟩) (by assumption) ?_; rotate_left; (focus (intro w hSw; (try dsimp only at hSw); go_simp; (try with_reducible rfl))); (simp only [put_lit, List.set]))
        (refine take_at (i := 8) (oi := _) (v := ?_) rfl rfl (by kernel_rfl) (by kernel_rfl) (by kernel_rfl) (fun _ _ _ h => h) (Or.inl ⟨by rfl, ?_⟩) (by assumption) ?_; rotate_left; (focus (intro w hSw; (try dsimp only at hSw); go_simp; (try with_reducible rfl))); (simp only [put_lit, List.set]))
        (refine take_at (i := 9) (oi := _) (v := ?_) rfl rfl (by kernel_rfl) (by kernel_rfl) (by kernel_rfl) (fun _ _ _ h => h) (Or.inl ⟨by rfl, ?_⟩) (by assumption) ?_; rotate_left; (focus (intro w hSw; (try dsimp only at hSw); go_simp; (try with_reducible rfl))); (simp only [put_lit, List.set]))
        refine wpAnyH_ready (rs := [10]) (by kernel_rfl) (by simp) ?_
        refine AllReadyH.cons rfl (fun K hK => ?_) AllReadyH.nil; go_simp
        refine (pseudo_any ikN ikN _ _ _ pa' _ _ _ pb' 40 _ (PA.out.below ikN (by (repeat (first | exact Below.refl _ _ | refine Below.drew ?_ | refine Below.alloc ?_ (by first | (simp; done) | (simp; omega) | omega) _ | refine Below.setCell ?_ (by first | (simp; done) | (simp; omega) | omega) _)))) (PB.out.below ikN (by (repeat (first | exact Below.refl _ _ | refine Below.drew ?_ | refine Below.alloc ?_ (by first | (simp; done) | (simp; omega) | omega) _ | refine Below.setCell ?_ (by first | (simp; done) | (simp; omega) | omega) _)))) (fun k => dlen_le_of_lt (HT.out.fa k)) HT.out.fb HT.out.b1 (by omega) (by omega) (by omega)).mono ?_
        rintro e w7 ⟨A7, l7, c7, A8, l8, c8, rfl, _, h8, hb7⟩
        obtain ⟨hcx, hfx⟩ := bcellS hb7
        have hb8 : Below wr.heap.size wr w7 := Below.trans (by (repeat (first | exact Below.refl _ _ | refine Below.drew ?_ | refine Below.alloc ?_ (by first | (simp; done) | (simp; omega) | omega) _ | refine Below.setCell ?_ (by first | (simp; done) | (simp; omega) | omega) _))) (hb7.mono (by simp <;> omega))
        have hl8 : l8 ≤ 7 := by
          have h1 := h8.length
          have h2 := psr_len pa' pb'
          have h3 := HT.out.la
          have h4 := plen_le pa'
          omega
        have PR := Lib.hid h8
        have PB7 := Lib.hid (PB.out.below ikN hb8)
        have PC7 := Lib.hid (PC.out.below ikN hb8)
        have Hb7 := Lib.hid (Hbw.out.trans (hb8.mono hws))
        have ea7 : w7.cell? ⟨b6, o6 + i, none⟩ = some (.slice Aa la' ca') := (hcx _ (by go_simp)).trans (by go_simp)
        have eb7 : w7.cell? ⟨b6, o6 + i1, none⟩ = some (.slice Ab lb' cb') := (hcx _ (by go_simp)).trans (by go_simp)
        have ec7 : w7.cell? ⟨b6, o6 + i2, none⟩ = some (.slice Ac lc' cc') := (hcx _ (by go_simp)).trans (by go_simp)
        refine hK.out _ _ ?_ (fun _ => ?_)
        · exact ⟨(hcx _ (by go_simp)).trans (by go_simp), (hcx _ (by go_simp)).trans (by go_simp), (hcx _ (by go_simp)).trans (by go_simp)⟩
        clear hHeld hK K hcx hfx; rename_i hHeld
        clear h8 hb7 hb8 PA PB PC ea eb ec
        (refine take_at (i := 11) (oi := _) (v := ?_) rfl rfl (by kernel_rfl) (by kernel_rfl) (by kernel_rfl) (fun _ _ _ h => h) (Or.inl ⟨by rfl, ?_⟩) (by assumption) ?_; rotate_left; (focus (intro w hSw; (try dsimp only at hSw); go_simp; (try with_reducible rfl))); (simp only [put_lit, List.set]))
        (refine take_at (i := 12) (oi := _) (v := ?_) rfl rfl (by kernel_rfl) (by kernel_rfl) (by kernel_rfl) (fun _ _ _ h => h) (Or.inl ⟨by rfl, ?_⟩) (by assumption) ?_; rotate_left; (focus (intro w hSw; (try dsimp only at hSw); go_simp; (try with_reducible rfl))); (simp only [put_lit, List.set]))
        (refine take_at (i := 13) (oi := _) (v := ?_) rfl rfl (by kernel_rfl) (by kernel_rfl) (by kernel_rfl) (fun _ _ _ h => h) (Or.inl ⟨by rfl, ?_⟩) (by assumption) ?_; rotate_left; (focus (intro w hSw; (try dsimp only at hSw); go_simp; (try with_reducible rfl))); (simp only [put_lit, List.set]))
        (refine take_at (i := 14) (oi := _) (v := ?_) rfl rfl (by kernel_rfl) (by kernel_rfl) (by kernel_rfl) (fun _ _ _ h => h) (Or.inl ⟨by rfl, ?_⟩) (by assumption) ?_; rotate_left; (focus (intro w hSw; (try dsimp only at hSw); go_simp; (try with_reducible rfl))); (simp only [put_lit, List.set]))
        (refine take_at (i := 15) (oi := _) (v := ?_) rfl rfl (by kernel_rfl) (by kernel_rfl) (by kernel_rfl) (fun _ _ _ h => h) (Or.inl ⟨by rfl, ?_⟩) (by assumption) ?_; rotate_left; (focus (intro w hSw; (try dsimp only at hSw); go_simp; (try with_reducible rfl))); (simp only [put_lit, List.set]))
        (refine take_at (i := 16) (oi := _) (v := ?_) rfl rfl (by kernel_rfl) (by kernel_rfl) (by kernel_rfl) (fun _ _ _ h => h) (Or.inl ⟨by rfl, ?_⟩) (by assumption) ?_; rotate_left; (focus (intro w hSw; (try dsimp only at hSw); go_simp; (try with_reducible rfl))); (simp only [put_lit, List.set]))
        (refine take_at (i := 17) (oi := _) (v := ?_) rfl rfl (by kernel_rfl) (by kernel_rfl) (by kernel_rfl) (fun _ _ _ h => h) (Or.inl ⟨by rfl, ?_⟩) (by assumption) ?_; rotate_left; (focus (intro w hSw; (try dsimp only at hSw); go_simp; (try with_reducible rfl))); (simp only [put_lit, List.set]))
        refine wpAnyH_done (by kernel_rfl) ?_ _
        clear hHeld
        have hws7 := Hb7.out.size
        go_wp2_with fail
        refine wp_region_held_drew (S := fun w' => w'.cell? ⟨b6, o6 + i, none⟩ = some (.slice Aa la' ca') ∧ w'.cell? ⟨b6, o6 + i1, none⟩ = some (.slice Ab lb' cb') ∧ w'.cell? ⟨b6, o6 + i2, none⟩ = some (.slice Ac lc' cc')) (by kernel_rfl) (by (try dsimp only); go_keep) (fun hHeld => ?_)
        (refine take_at (i := 0) (oi := _) (v := ?_) rfl rfl (by kernel_rfl) (by kernel_rfl) (by kernel_rfl) (fun _ _ _ h => h) (Or.inl ⟨by rfl, ?_⟩) (by assumption) ?_; rotate_left; (focus (intro w hSw; (try dsimp only at hSw); go_simp; (try with_reducible rfl))); (simp only [put_lit, List.set]))
        (refine take_at (i := 1) (oi := _) (v := ?_) rfl rfl (by kernel_rfl) (by kernel_rfl) (by kernel_rfl) (fun _ _ _ h => h) (Or.inl ⟨by rfl, ?_⟩) (by assumption) ?_; rotate_left; (focus (intro w hSw; (try dsimp only at hSw); go_simp; (try with_reducible rfl))); (simp only [put_lit, List.set]))
        (refine take_at (i := 2) (oi := _) (v := ?_) rfl rfl (by kernel_rfl) (by kernel_rfl) (by kernel_rfl) (fun _ _ _ h => h) (Or.inl ⟨by rfl, ?_⟩) (by assumption) ?_; rotate_left; (focus (intro w hSw; (try dsimp only at hSw); go_simp; (try with_reducible rfl))); (simp only [put_lit, List.set]))
        (refine take_at (i := 3) (oi := _) (v := ?_) rfl rfl (by kernel_rfl) (by kernel_rfl) (by kernel_rfl) (fun _ _ _ h => h) (Or.inl ⟨by rfl, ?_⟩) (by assumption) ?_; rotate_left; (focus (intro w hSw; (try dsimp only at hSw); go_simp; (try with_reducible rfl))); (simp only [put_lit, List.set]))
        (refine take_at (i := 4) (oi := _) (v := ?_) rfl rfl (by kernel_rfl) (by kernel_rfl) (by kernel_rfl) (fun _ _ _ h => h) (Or.inl ⟨by rfl, ?_⟩) (by assumption) ?_; rotate_left; (focus (intro w hSw; (try dsimp only at hSw); go_simp; (try with_reducible rfl))); (simp only [put_lit, List.set]))
        (refine take_at (i := 5) (oi := _) (v := ?_) rfl rfl (by kernel_rfl) (by kernel_rfl) (by kernel_rfl) (fun _ _ _ h => h) (Or.inl ⟨by rfl, ?_⟩) (by assumption) ?_; rotate_left; (focus (intro w hSw; (try dsimp only at hSw); go_simp; (try with_reducible rfl))); (simp only [put_lit, List.set]))
        (refine take_at (i := 6) (oi := _) (v := ?_) rfl rfl (by kernel_rfl) (by kernel_rfl) (by kernel_rfl) (fun _ _ _ h => h) (Or.inl ⟨by rfl, ?_⟩) (by assumption) ?_; rotate_left; (focus (intro w hSw; (try dsimp only at hSw); go_simp; (try with_reducible rfl))); (simp only [put_lit, List.set]))
        (refine take_at (i := 8) (oi := _) (v := ?_) rfl rfl (by kernel_rfl) (by kernel_rfl) (by kernel_rfl) (fun _ _ _ h => h) (Or.inl ⟨by rfl, ?_⟩) (by assumption) ?_; rotate_left; (focus (intro w hSw; (try dsimp only at hSw); go_simp; (try with_reducible rfl))); (simp only [put_lit, List.set]))
        (refine take_at (i := 9) (oi := _) (v := ?_) rfl rfl (by kernel_rfl) (by kernel_rfl) (by kernel_rfl) (fun _ _ _ h => h) (Or.inl ⟨by rfl, ?_⟩) (by assumption) ?_; rotate_left; (focus (intro w hSw; (try dsimp only at hSw); go_simp; (try with_reducible rfl))); (simp only [put_lit, List.set]))
        (refine take_at (i := 10) (oi := _) (v := ?_) rfl rfl (by kernel_rfl) (by kernel_rfl) (by kernel_rfl) (fun _ _ _ h => h) (Or.inl ⟨by rfl, ?_⟩) (by assumption) ?_; rotate_left; (focus (intro w hSw; (try dsimp only at hSw); go_simp; (try with_reducible rfl))); (simp only [put_lit, List.set]))
        (refine take_at (i := 11) (oi := _) (v := ?_) rfl rfl (by kernel_rfl) (by kernel_rfl) (by kernel_rfl) (fun _ _ _ h => h) (Or.inl ⟨by rfl, ?_⟩) (by assumption) ?_; rotate_left; (focus (intro w hSw; (try dsimp only at hSw); go_simp; (try with_reducible rfl))); (simp only [put_lit, List.set]))
        (refine take_at (i := 12) (oi := _) (v := ?_) rfl rfl (by kernel_rfl) (by kernel_rfl) (by kernel_rfl) (fun _ _ _ h => h) (Or.inl ⟨by rfl, ?_⟩) (by assumption) ?_; rotate_left; (focus (intro w hSw; (try dsimp only at hSw); go_simp; (try with_reducible rfl))); (simp only [put_lit, List.set]))
        refine wpAnyH_ready (rs := [7]) (by kernel_rfl) (by simp) ?_
        refine AllReadyH.cons rfl (fun K hK => ?_) AllReadyH.nil; go_simp
        refine (degree_any _ _ _ pc' _ ((PC7.out.below ikN (by (repeat (first | exact Below.refl _ _ | refine Below.drew ?_ | refine Below.alloc ?_ (by first | (simp; done) | (simp; omega) | omega) _ | refine Below.setCell ?_ (by first | (simp; done) | (simp; omega) | omega) _)))).at_ ikN) HT.out.fc.smp (by omega)).mono ?_
        rintro e w8 ⟨rfl, hb8⟩
        obtain ⟨zc, hzc⟩ : ∃ zc : Int, zc = ((plen pc' : Nat) : Int) - 1 := ⟨_, rfl⟩
        rw [← hzc]
        have Hzc := Lib.hid hzc
        obtain ⟨hcx, hfx⟩ := bcellS hb8
        have hb9 : Below w7.heap.size w7 w8 := Below.trans (by (repeat (first | exact Below.refl _ _ | refine Below.drew ?_ | refine Below.alloc ?_ (by first | (simp; done) | (simp; omega) | omega) _ | refine Below.setCell ?_ (by first | (simp; done) | (simp; omega) | omega) _))) (hb8.mono (by simp <;> omega))
        have PR8 := Lib.hid (PR.out.below ikN hb9)
        have PB8 := Lib.hid (PB7.out.below ikN hb9)
        have PC8 := Lib.hid (PC7.out.below ikN hb9)
        have Hb8 := Lib.hid (Hb7.out.trans (hb9.mono hws7))
        refine hK.out _ _ ?_ (fun _ => ?_)
        · exact ⟨(hcx _ (by go_simp)).trans (by go_simp), (hcx _ (by go_simp)).trans (by go_simp), (hcx _ (by go_simp)).trans (by go_simp)⟩
        clear hHeld hK K hcx hfx; rename_i hHeld
        clear hb8 hb9 PR PB7 PC7 Hb7 hzc ea7 eb7 ec7
        refine wpAnyH_ready (rs := [13]) (by kernel_rfl) (by simp) ?_
        refine AllReadyH.cons rfl (fun K hK => ?_) AllReadyH.nil; go_simp
        refine (degree_any _ _ _ pb' _ ((PB8.out.below ikN (by (repeat (first | exact Below.refl _ _ | refine Below.drew ?_ | refine Below.alloc ?_ (by first | (simp; done) | (simp; omega) | omega) _ | refine Below.setCell ?_ (by first | (simp; done) | (simp; omega) | omega) _)))).at_ ikN) HT.out.fb.smp (by omega)).mono ?_
        rintro e w9 ⟨rfl, hb9⟩
        obtain ⟨zb, hzb⟩ : ∃ zb : Int, zb = ((plen pb' : Nat) : Int) - 1 := ⟨_, rfl⟩
        rw [← hzb]
        have t5 : ¬ (zb ≤ zc) := by have := Hzc.out; have := HT.out.lt; omega
        have t5d : decide (zb ≤ zc) = false := decide_eq_false t5
        obtain ⟨hcx, hfx⟩ := bcellS hb9
        have hb0 : Below w8.heap.size w8 w9 := Below.trans (by (repeat (first | exact Below.refl _ _ | refine Below.drew ?_ | refine Below.alloc ?_ (by first | (simp; done) | (simp; omega) | omega) _ | refine Below.setCell ?_ (by first | (simp; done) | (simp; omega) | omega) _))) (hb9.mono (by simp <;> omega))
        have PR9 := Lib.hid (PR8.out.below ikN hb0)
        have PC9 := Lib.hid (PC8.out.below ikN hb0)
        have Hb9 := Lib.hid (Hb8.out.trans (hb0.mono Hb8.out.size))
        refine hK.out _ _ ?_ (fun _ => ?_)
        · exact ⟨(hcx _ (by go_simp)).trans (by go_simp), (hcx _ (by go_simp)).trans (by go_simp), (hcx _ (by go_simp)).trans (by go_simp)⟩
        clear hHeld hK K hcx hfx; rename_i hHeld
        clear hb9 hb0 PR8 PB8 PC8 Hb8 hzb
        (refine take_at (i := 14) (oi := _) (v := ?_) rfl rfl (by kernel_rfl) (by kernel_rfl) (by kernel_rfl) (fun _ _ _ h => h) (Or.inl ⟨by rfl, ?_⟩) (by assumption) ?_; rotate_left; (focus (intro w hSw; (try dsimp only at hSw); go_simp; (try with_reducible rfl))); (simp only [put_lit, List.set]))
        (refine take_at (i := 15) (oi := _) (v := ?_) rfl rfl (by kernel_rfl) (by kernel_rfl) (by kernel_rfl) (fun _ _ _ h => h) (Or.inl ⟨by rfl, ?_⟩) (by assumption) ?_; rotate_left; (focus (intro w hSw; (try dsimp only at hSw); go_simp; (try with_reducible rfl))); (simp only [put_lit, List.set]))
        (refine take_at (i := 16) (oi := _) (v := ?_) rfl rfl (by kernel_rfl) (by kernel_rfl) (by kernel_rfl) (fun _ _ _ h => h) (Or.inl ⟨by rfl, ?_⟩) (by assumption) ?_; rotate_left; (focus (intro w hSw; (try dsimp only at hSw); go_simp; (try with_reducible rfl))); (simp only [put_lit, List.set]))
        (refine take_at (i := 17) (oi := _) (v := ?_) rfl rfl (by kernel_rfl) (by kernel_rfl) (by kernel_rfl) (fun _ _ _ h => h) (Or.inl ⟨by rfl, ?_⟩) (by assumption) ?_; rotate_left; (focus (intro w hSw; (try dsimp only at hSw); go_simp; (try with_reducible rfl))); (simp only [put_lit, List.set]))
        (refine take_at (i := 19) (oi := _) (v := ?_) rfl rfl (by kernel_rfl) (by kernel_rfl) (by kernel_rfl) (fun _ _ _ h => h) (Or.inl ⟨by rfl, ?_⟩) (by assumption) ?_; rotate_left; (focus (intro w hSw; (try dsimp only at hSw); go_simp; (try with_reducible rfl))); (simp only [put_lit, List.set]))
        (refine take_at (i := 20) (oi := _) (v := ?_) rfl rfl (by kernel_rfl) (by kernel_rfl) (by kernel_rfl) (fun _ _ _ h => h) (Or.inl ⟨by rfl, ?_⟩) (by assumption) ?_; rotate_left; (focus (intro w hSw; (try dsimp only at hSw); go_simp; (try with_reducible rfl))); (simp only [put_lit, List.set]))
        (refine take_at (i := 21) (oi := _) (v := ?_) rfl rfl (by kernel_rfl) (by kernel_rfl) (by kernel_rfl) (fun _ _ _ h => h) (Or.inl ⟨by rfl, ?_⟩) (by assumption) ?_; rotate_left; (focus (intro w hSw; (try dsimp only at hSw); go_simp; (try with_reducible rfl))); (simp only [put_lit, List.set]))
        (refine take_at (i := 22) (oi := _) (v := ?_) rfl rfl (by kernel_rfl) (by kernel_rfl) (by kernel_rfl) (fun _ _ _ h => h) (Or.inl ⟨by rfl, ?_⟩) (by assumption) ?_; rotate_left; (focus (intro w hSw; (try dsimp only at hSw); go_simp; (try with_reducible rfl))); (simp only [put_lit, List.set]))
        refine wpAnyH_ready (rs := [18]) (by kernel_rfl) (by simp) ?_
        refine AllReadyH.cons rfl (fun K hK => ?_) AllReadyH.nil; go_simp
        refine (primitive_any ikN _ _ _ (psr pa' pb') _ (PR9.out.below ikN (by (repeat (first | exact Below.refl _ _ | refine Below.drew ?_ | refine Below.alloc ?_ (by first | (simp; done) | (simp; omega) | omega) _ | refine Below.setCell ?_ (by first | (simp; done) | (simp; omega) | omega) _)))) HT.out.sr (by omega)).mono ?_
        rintro e w10 ⟨A10, l10, c10, rfl, h10, hb10⟩
        rw [HT.out.eq] at h10
        obtain ⟨hcx, hfx⟩ := bcellS hb10
        have hb0 : Below w9.heap.size w9 w10 := Below.trans (by (repeat (first | exact Below.refl _ _ | refine Below.drew ?_ | refine Below.alloc ?_ (by first | (simp; done) | (simp; omega) | omega) _ | refine Below.setCell ?_ (by first | (simp; done) | (simp; omega) | omega) _))) (hb10.mono (by simp <;> omega))
        have hl10 : l10 ≤ 7 := by have h1 := h10.length; have h2 := gp_length pc'; have h3 := plen_le pc'; have h4 := HT.out.lc; omega
        have P10 := Lib.hid h10
        have PC10 := Lib.hid (PC9.out.below ikN hb0)
        have Hb10 := Lib.hid (Hb9.out.trans (hb0.mono Hb9.out.size))
        refine hK.out _ _ ?_ (fun _ => ?_)
        · exact ⟨(hcx _ (by go_simp)).trans (by go_simp), (hcx _ (by go_simp)).trans (by go_simp), (hcx _ (by go_simp)).trans (by go_simp)⟩
        clear hHeld hK K hcx hfx; rename_i hHeld
        clear h10 hb10 hb0 PR9 PC9 Hb9
        refine wpAnyH_ready (rs := [23]) (by kernel_rfl) (by simp) ?_
        refine AllReadyH.cons rfl (fun K hK => ?_) AllReadyH.nil; go_simp
        refine (primitive_any ikN _ _ _ pc' _ (PC10.out.below ikN (by (repeat (first | exact Below.refl _ _ | refine Below.drew ?_ | refine Below.alloc ?_ (by first | (simp; done) | (simp; omega) | omega) _ | refine Below.setCell ?_ (by first | (simp; done) | (simp; omega) | omega) _)))) HT.out.fc.smp (by omega)).mono ?_
        rintro e w11 ⟨A11, l11, c11, rfl, h11, hb11⟩
        obtain ⟨hcx, hfx⟩ := bcellS hb11
        have hb0 : Below w10.heap.size w10 w11 := Below.trans (by (repeat (first | exact Below.refl _ _ | refine Below.drew ?_ | refine Below.alloc ?_ (by first | (simp; done) | (simp; omega) | omega) _ | refine Below.setCell ?_ (by first | (simp; done) | (simp; omega) | omega) _))) (hb11.mono (by simp <;> omega))
        have hl11 : l11 ≤ 7 := by have h1 := h11.length; have h2 := gp_length pc'; have h3 := plen_le pc'; have h4 := HT.out.lc; omega
        have P11 := Lib.hid h11
        have P10b := Lib.hid (P10.out.below ikN hb0)
        have Hb11 := Lib.hid (Hb10.out.trans (hb0.mono Hb10.out.size))
        have Sp := Lib.hid ((show FitP (pprim pc') from fun j => Nat.lt_of_le_of_lt (pprim_abs _ j) (HT.out.fc j)).smp)
        refine hK.out _ _ ?_ (fun _ => ?_)
        · exact ⟨(hcx _ (by go_simp)).trans (by go_simp), (hcx _ (by go_simp)).trans (by go_simp), (hcx _ (by go_simp)).trans (by go_simp)⟩
        clear hHeld hK K hcx hfx; rename_i hHeld
        clear h11 hb11 hb0 P10 PC10 Hb10
        refine wpAnyH_ready (rs := [24]) (by kernel_rfl) (by simp) ?_
        refine AllReadyH.cons rfl (fun K hK => ?_) AllReadyH.nil; go_simp
        refine (same_any ikN ikN _ _ _ (pprim pc') _ _ _ (pprim pc') _ (P10b.out.below ikN (by (repeat (first | exact Below.refl _ _ | refine Below.drew ?_ | refine Below.alloc ?_ (by first | (simp; done) | (simp; omega) | omega) _ | refine Below.setCell ?_ (by first | (simp; done) | (simp; omega) | omega) _)))) (P11.out.below ikN (by (repeat (first | exact Below.refl _ _ | refine Below.drew ?_ | refine Below.alloc ?_ (by first | (simp; done) | (simp; omega) | omega) _ | refine Below.setCell ?_ (by first | (simp; done) | (simp; omega) | omega) _)))) Sp.out Sp.out (by omega) (by omega)).mono ?_
        rintro e w12 ⟨rfl, hb12⟩
        rw [show decide (ptrim (pprim pc') = ptrim (pprim pc')) = true from decide_eq_true rfl]
        obtain ⟨hcx, hfx⟩ := bcellS hb12
        have hb0 : Below w11.heap.size w11 w12 := Below.trans (by (repeat (first | exact Below.refl _ _ | refine Below.drew ?_ | refine Below.alloc ?_ (by first | (simp; done) | (simp; omega) | omega) _ | refine Below.setCell ?_ (by first | (simp; done) | (simp; omega) | omega) _))) (hb12.mono (by simp <;> omega))
        have Hb12 := Lib.hid (Hb11.out.trans (hb0.mono Hb11.out.size))
        refine hK.out _ _ ?_ (fun _ => ?_)
        · exact ⟨(hcx _ (by go_simp)).trans (by go_simp), (hcx _ (by go_simp)).trans (by go_simp), (hcx _ (by go_simp)).trans (by go_simp)⟩
        clear hHeld hK K hcx hfx; rename_i hHeld
        clear hb12 hb0 P10b P11 Hb11
        (refine take_at (i := 25) (oi := _) (v := ?_) rfl rfl (by kernel_rfl) (by kernel_rfl) (by kernel_rfl) (fun _ _ _ h => h) (Or.inl ⟨by rfl, ?_⟩) (by assumption) ?_; rotate_left; (focus (intro w hSw; (try dsimp only at hSw); go_simp; (try with_reducible rfl))); (simp only [put_lit, List.set]))
        (refine take_at (i := 26) (oi := _) (v := ?_) rfl rfl (by kernel_rfl) (by kernel_rfl) (by kernel_rfl) (fun _ _ _ h => h) (Or.inl ⟨by rfl, ?_⟩) (by assumption) ?_; rotate_left; (focus (intro w hSw; (try dsimp only at hSw); go_simp; (try with_reducible rfl))); (simp only [put_lit, List.set]))
        refine wpAnyH_done (by kernel_rfl) ?_ _
        clear hHeld
        go_wp2_with fail
        go_roundw
        case rel => exact ⟨i + 1, by have := Hi2.out; omega, by have := Hi2.out; go_num, Hb12.out⟩
        case measure => have := Hi2.out; simp [intOf]; omega
      · have t4 : ¬ ((i2 : Int) < (n : Int)) := by omega
        obtain ⟨n1, hn1⟩ : ∃ n1 : Nat, n1 = n - 1 := ⟨_, rfl⟩
        obtain ⟨Aa, la', ca', ea, pa⟩ := Hc6.out n1 (by omega)
        have Q3 := Lib.hid (show pprim (L.getD n1 []) = pprim (gres f g) ∧ plen (L.getD n1 []) = plen (gres f g) by rw [hn1]; exact Q3.out)
        obtain ⟨fa, hla7⟩ := Q4.out n1 (by omega)
        obtain ⟨pa', hpa⟩ : ∃ p, p = L.getD n1 [] := ⟨_, rfl⟩
        rw [← hpa] at pa fa hla7
        have Q5 := Lib.hid (show pprim pa' = pprim (gres f g) ∧ plen pa' = plen (gres f g) by rw [hpa]; exact Q3.out)
        have ea := (hbw.cell (p := ⟨b6, o6 + n1, none⟩) hb6).trans ea
        have la7 : la' ≤ 7 := by rw [← pa.length]; exact hla7
        have k1 : (n : Int) - 1 = (n1 : Int) := by omega
        have w1 : IntKind.i64.wrap (n1 : Int) = (n1 : Int) := IntWalk.i64_in _ (by omega)
        have x1 : (n1 : Int) < (n : Int) := by omega
        have PA := Lib.hid (pa.below ikN hbw)
        have HFr := Lib.hid (HF6.out.below ikAt hbw)
        have HGr := Lib.hid (HG6.out.below ikAt hbw)
        have Hbr := Lib.hid (Hb6.out.trans (hbw.mono Hb6.out.size))
        have n2 : n1 < n := by omega
        have Fa := Lib.hid fa
        clear hn1 pa hpa Q3 hbw fa hi2
        go_wp2_with fail
        refine (primitive_any ikN _ _ _ pa' _ PA.out Fa.out.smp (by omega)).mono ?_
        rintro e w7 ⟨A7, l7, c7, rfl, h7, hb7⟩
        rw [Q5.out.1] at h7
        have hl7 : l7 ≤ 7 := by have h1 := h7.length; have h2 := gp_length (gres f g); have h3 := plen_le (gres f g); have h4 := HD.out.len; omega
        have P7 := Lib.hid h7
        have PA7 := Lib.hid (PA.out.below ikN hb7)
        have HF7 := Lib.hid (HFr.out.below ikAt hb7)
        have HG7 := Lib.hid (HGr.out.below ikAt hb7)
        have Hb7 := Lib.hid (Hbr.out.trans (hb7.mono Hbr.out.size))
        clear h7 hb7 PA HFr HGr Hbr ea
        go_wp2_with fail
        refine (gcd_any ikAt ikAt _ _ _ f _ _ _ g _ HF7.out HG7.out F7.out.fit.smp G7.out.fit.smp (by omega) (by omega) (few7_ga F7.out G7.out)).mono ?_
        rintro e w8 ⟨A8, l8, c8, rfl, h8, hb8⟩
        have hl8 : l8 ≤ 7 := by rw [← h8.length]; exact HD.out.len
        have D8 := Lib.hid h8
        have P8 := Lib.hid (P7.out.below ikN hb8)
        have PA8 := Lib.hid (PA7.out.below ikN hb8)
        have HF8 := Lib.hid (HF7.out.below ikAt hb8)
        have HG8 := Lib.hid (HG7.out.below ikAt hb8)
        have Hb8 := Lib.hid (Hb7.out.trans (hb8.mono Hb7.out.size))
        clear h8 hb8 P7 PA7 HF7 HG7 Hb7
        go_wp2_with fail
        refine (primitive_any ikN _ _ _ (gres f g) _ D8.out HD.out.fit.smp (by omega)).mono ?_
        rintro e w9 ⟨A9, l9, c9, rfl, h9, hb9⟩
        have hl9 : l9 ≤ 7 := by have h1 := h9.length; have h2 := gp_length (gres f g); have h3 := plen_le (gres f g); have h4 := HD.out.len; omega
        have P9 := Lib.hid h9
        have P8b := Lib.hid (P8.out.below ikN hb9)
        have PA9 := Lib.hid (PA8.out.below ikN hb9)
        have HF9 := Lib.hid (HF8.out.below ikAt hb9)
        have HG9 := Lib.hid (HG8.out.below ikAt hb9)
        have Hb9 := Lib.hid (Hb8.out.trans (hb9.mono Hb8.out.size))
        have Sp := Lib.hid ((show FitP (pprim (gres f g)) from fun j => Nat.lt_of_le_of_lt (pprim_abs _ j) (HD.out.fit j)).smp)
        clear h9 hb9 P8 PA8 HF8 HG8 Hb8 D8
        go_wp2_with fail
        refine (same_any ikN ikN _ _ _ (pprim (gres f g)) _ _ _ (pprim (gres f g)) _ P8b.out P9.out Sp.out Sp.out (by omega) (by omega)).mono ?_
        rintro e w10 ⟨rfl, hb10⟩
        rw [show decide (ptrim (pprim (gres f g)) = ptrim (pprim (gres f g))) = true from decide_eq_true rfl]
        have PA10 := Lib.hid (PA9.out.below ikN hb10)
        have HF10 := Lib.hid (HF9.out.below ikAt hb10)
        have HG10 := Lib.hid (HG9.out.below ikAt hb10)
        have Hb10 := Lib.hid (Hb9.out.trans (hb10.mono Hb9.out.size))
        clear hb10 P8b PA9 HF9 HG9 Hb9 P9
        go_wp2_with fail
        refine (degree_any _ _ _ pa' _ (PA10.out.at_ ikN) Fa.out.smp (by omega)).mono ?_
        rintro e w11 ⟨rfl, hb11⟩
        obtain ⟨za, hza⟩ : ∃ za : Int, za = ((plen pa' : Nat) : Int) - 1 := ⟨_, rfl⟩
        rw [← hza]
        have HF11 := Lib.hid (HF10.out.below ikAt hb11)
        have HG11 := Lib.hid (HG10.out.below ikAt hb11)
        have Hb11 := Lib.hid (Hb10.out.trans (hb11.mono Hb10.out.size))
        obtain ⟨bd, hbd⟩ : ∃ bd, bd = decide (plen (gres f g) = 1) := ⟨_, rfl⟩
        have hfin : ((za == 0) == bd) = true := by
          have h1 : (za == 0) = bd := by
            rw [Bool.eq_iff_iff, beq_iff_eq, hbd, decide_eq_true_iff, ← Q5.out.2]; omega
          rw [h1]; simp
        have Hbd := Lib.hid hbd
        have Hfin := Lib.hid hfin
        clear hb11 PA10 HF10 HG10 Hb10 hza hbd
        go_wp2_with fail
        refine (coprime_any ikAt ikAt _ _ _ f _ _ _ g _ HF11.out HG11.out F7.out.fit.smp G7.out.fit.smp (by omega) (by omega) (few7_ga F7.out G7.out) HD.out.fit.smp (by have := HD.out.len; omega)).mono ?_
        rintro e w12 ⟨rfl, hb12⟩
        rw [← Hbd.out]
        have Hb12 := Lib.hid (Hb11.out.trans (hb12.mono Hb11.out.size))
        clear hb12 Hb11 HF11 HG11
        go_wp2
        go_ret
        exact ⟨by first | rfl | rw [Hfin.out] | (rw [Hfin.out]; rfl), Hb12.out⟩
end Go.Proofs.Ytgblfpkfapmlnaa
