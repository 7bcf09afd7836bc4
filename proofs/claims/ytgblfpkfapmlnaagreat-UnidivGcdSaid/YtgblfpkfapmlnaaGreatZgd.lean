/- The walk of cylinderref09.Gcd. -/
import Derived.Test.YtgblfpkfapmlnaaGreatGdp
import Derived.Test.YtgblfpkfapmlnaaGreatZov
import Derived.Test.YtgblfpkfapmlnaaGreatBtm
namespace Go.Proofs.YtgblfpkfapmlnaaGreat
open Go Go.RowKit

theorem psr_zb {x y : List Int} (hx : ptrim x = x) (hy : ptrim y = y) (y0 : 1 ≤ plen y) (bx : Bd gsB x) (by' : Bd gsB y) (lx : x.length ≤ 7) : ZB 400000 (psr x y) := by
  have h1 := rrun_ps (f := x) (g := y) y0
  rw [hx, hy] at h1
  have hp : 1 ≤ gsB := Nat.le_trans (by decide) gsB_a
  have h2 := (rrun_bd (d := plen y - 1) (K := plen x - plen y) by' bx hp (plen x + 1 - plen y)).2
  rw [h1] at h2
  have h3 := plen_le x
  obtain ⟨E, hE, hB⟩ := gsB_exp
  exact h2.zb (pow_room hB hE (by omega)).1

theorem len_trim' {p : List Int} (h : ptrim p = p) : plen p = p.length := by have := congrArg List.length h; rwa [ptrim_length] at this
theorem gpair_trim (f g : List Int) : ptrim (gpair f g).1 = (gpair f g).1 := by unfold gpair; split <;> exact gp_trim _
set_option maxRecDepth 100000 in
set_option maxHeartbeats 8000000 in
theorem zpgcd_any (A : Option Addr) (la ca : Nat) (f : List Int) (B : Option Addr) (lb cb : Nat) (g : List Int) (w : World) (hf : ZP w A la ca (ptrim f)) (hg : ZP w B lb cb (ptrim g)) (f7 : Few7 f) (g7 : Few7 g) :
    Calls Tryz.prog 19 #[.slice A la ca, .slice B lb cb] w (PRet w (gres f g) False) := by
  have HF := Lib.hid hf
  have HG := Lib.hid hg
  have lfa : la ≤ 7 := by rw [← hf.length, ptrim_length]; exact f7.1
  have lga : lb ≤ 7 := by rw [← hg.length, ptrim_length]; exact g7.1
  have zb : ∀ {p : List Int}, Few7 p → ZB 1000 (ptrim p) := fun {p} h j => by
    rw [ptrim_getD]
    exact Nat.le_trans (bln_mono (h.2 j)) (by decide +kernel)
  have Zf := Lib.hid (ZB.mono (zb f7) (show 1000 ≤ 400000 by decide))
  have Zg := Lib.hid (ZB.mono (zb g7) (show 1000 ≤ 400000 by decide))
  have Cf := Lib.hid (show bln (pcont f) ≤ 400000 by have := pcont_take_bln Zf.out (ptrim f).length; rwa [List.take_length, pcont_trim] at this)
  have Cg := Lib.hid (show bln (pcont g) ≤ 400000 by have := pcont_take_bln Zg.out (ptrim g).length; rwa [List.take_length, pcont_trim] at this)
  obtain ⟨X, hX, hv, hXl, hXb⟩ := GS.start f7 g7
  have HX := Lib.hid hX
  have Hv := Lib.hid hv
  have HXb := Lib.hid (show ZB 400000 X from by
    obtain ⟨E, hE, hB⟩ := gsB_exp
    exact hXb.zb (Nat.le_trans (bln_pow hB) (by omega)))
  have HXl := Lib.hid hXl
  have ppf : pprim (ptrim f) = pprim f := pprim_scale (c := 1) (d := 1) (by decide) (by decide) (fun k => by rw [ptrim_getD])
  have ppg : pprim (ptrim g) = pprim g := pprim_scale (c := 1) (d := 1) (by decide) (by decide) (fun k => by rw [ptrim_getD])
  have Ppf := Lib.hid ppf
  have Ppg := Lib.hid ppg
  have Lf := Lib.hid (gp_length f)
  have Lg := Lib.hid (gp_length g)
  have pf7 := f7.1
  have pg7 := g7.1
  clear hf hg zb hX hv hXl hXb ppf ppg f7 g7
  go_enter Tryz.func19, Tryz.ntmps19
  go_wp2_with fail
  refine (zcontent_any _ _ _ (ptrim f) _ HF.out (by omega) Zf.out).mono ?_
  rintro e w1 ⟨s1, A1, l1, c1, rfl, h1, hb1⟩
  rw [pcont_trim] at h1
  have L1 : l1 ≤ 800000 := by have := h1.len; rw [Int.natAbs_natCast] at this; have := Cf.out; omega
  have Z1 := Lib.hid h1
  have HF1 := Lib.hid (HF.out.below hb1)
  have HG1 := Lib.hid (HG.out.below hb1)
  have Hb1 := Lib.hid hb1
  clear h1 hb1 HF HG
  go_wp2_with fail
  refine (zcontent_any _ _ _ (ptrim g) _ HG1.out (by omega) Zg.out).mono ?_
  rintro e w2 ⟨s2, A2, l2, c2, rfl, h2, hb2⟩
  rw [pcont_trim] at h2
  have L2 : l2 ≤ 800000 := by have := h2.len; rw [Int.natAbs_natCast] at this; have := Cg.out; omega
  have Z2 := Lib.hid h2
  have Z1b := Lib.hid (Z1.out.below hb2)
  have HF2 := Lib.hid (HF1.out.below hb2)
  have HG2 := Lib.hid (HG1.out.below hb2)
  have Hb2 := Lib.hid (Hb1.out.trans (hb2.mono Hb1.out.size))
  clear h2 hb2 HF1 HG1 Hb1 Z1
  go_wp2_with fail
  refine (zgcd_any _ _ _ _ ((pcont f : Nat) : Int) _ _ _ _ ((pcont g : Nat) : Int) _ Z1b.out Z2.out L1 L2).mono ?_
  rintro e w3 ⟨s3, A3, l3, c3, rfl, h3, hb3⟩
  rw [Int.natAbs_natCast, Int.natAbs_natCast] at h3
  obtain ⟨K, hK⟩ : ∃ K : Int, K = ((Nat.gcd (pcont f) (pcont g) : Nat) : Int) := ⟨_, rfl⟩
  rw [← hK] at h3
  have hKb : bln K.natAbs ≤ 400000 := by
    rw [hK, Int.natAbs_natCast]
    by_cases h0 : pcont f = 0
    · rw [h0, Nat.gcd_zero_left]; exact Cg.out
    · exact Nat.le_trans (bln_mono (Nat.gcd_le_left _ (by omega))) Cf.out
  have L3 : l3 ≤ 400000 := by rw [h3.len]; exact hKb
  have B3 := Lib.hid (ZBox.make h3)
  have hb3' : Below w2.heap.size w2 (w3.alloc (zbox s3 A3 l3 c3)) := hb3.alloc hb3.size _
  have HF3 := Lib.hid (HF2.out.below hb3')
  have HG3 := Lib.hid (HG2.out.below hb3')
  have Hb3 := Lib.hid (Hb2.out.trans (hb3'.mono Hb2.out.size))
  have HK := Lib.hid hK
  obtain ⟨g3, hg3⟩ : ∃ g3, g3 = w3.heap.size := ⟨_, rfl⟩
  obtain ⟨wa, hwa⟩ : ∃ wa, wa = w3.alloc (zbox s3 A3 l3 c3) := ⟨_, rfl⟩
  clear h3 hb3 hb3' HF2 HG2 Hb2 Z1b Z2 hK hKb
  go_wp2_with fail
  rw [← hg3, ← hwa] at B3
  rw [← hwa] at HF3 HG3 Hb3
  show Calls _ _ _ (w3.alloc (zbox s3 A3 l3 c3)) _
  rw [← hg3, ← hwa]
  clear hg3 hwa
  refine (zprim_any _ _ _ (ptrim f) _ HF3.out (ptrim_ptrim f) (by omega) Zf.out).mono ?_
  rintro e w4 ⟨A4, l4, c4, rfl, h4, _, hb4⟩
  rw [Ppf.out] at h4
  have hl4 : l4 = plen f := by rw [← h4.length, Lf.out]
  subst hl4
  have H4 := Lib.hid h4
  have B4 := Lib.hid (B3.out.move hb4)
  have HG4 := Lib.hid (HG3.out.below hb4)
  have Hb4 := Lib.hid (Hb3.out.trans (hb4.mono Hb3.out.size))
  clear h4 hb4 HF3 HG3 Hb3 B3
  go_wp2_with fail
  refine (zprim_any _ _ _ (ptrim g) _ HG4.out (ptrim_ptrim g) (by omega) Zg.out).mono ?_
  rintro e w5 ⟨A5, l5, c5, rfl, h5, _, hb5⟩
  rw [Ppg.out] at h5
  have hl5 : l5 = plen g := by rw [← h5.length, Lg.out]
  subst hl5
  have H5 := Lib.hid h5
  have H4b := Lib.hid (H4.out.below hb5)
  have B5 := Lib.hid (B4.out.move hb5)
  have Hb5 := Lib.hid (Hb4.out.trans (hb5.mono Hb4.out.size))
  clear h5 hb5 HG4 Hb4 B4 H4
  go_upto_if 24 with (fail)
  go_cut [6, 7] (fun s6 s7 wx => ∃ A6 l6 c6 A7 l7 c7, s6 = .slice A6 l6 c6 ∧ s7 = .slice A7 l7 c7 ∧ ZP wx A6 l6 c6 (gpair f g).1 ∧ ZP wx A7 l7 c7 (gpair f g).2 ∧ Below w5.heap.size w5 wx)
  case first =>
    by_cases hcmp : plen f < plen g
    · have t1 : ((plen f : Nat) : Int) < ((plen g : Nat) : Int) := by omega
      have hp : gpair f g = (pprim g, pprim f) := by unfold gpair; rw [if_pos hcmp]
      have Hp := Lib.hid hp
      clear hp hcmp
      go_wp2
      go_meet
      exact ⟨_, _, _, _, _, _, rfl, rfl, by rw [Hp.out]; exact H5.out, by rw [Hp.out]; exact H4b.out, Below.refl _ _⟩
    · have t1 : ¬ (((plen f : Nat) : Int) < ((plen g : Nat) : Int)) := by omega
      have hp : gpair f g = (pprim f, pprim g) := by unfold gpair; rw [if_neg hcmp]
      have Hp := Lib.hid hp
      clear hp hcmp
      go_wp2
      go_meet
      exact ⟨_, _, _, _, _, _, rfl, rfl, by rw [Hp.out]; exact H4b.out, by rw [Hp.out]; exact H5.out, Below.refl _ _⟩
  case rest =>
    obtain ⟨A6, l6, c6, A7, l7, c7, rfl, rfl, h6, h7, hb6⟩ := hcut
    have H6 := Lib.hid h6
    have H7 := Lib.hid h7
    have B6 := Lib.hid (B5.out.move hb6)
    have Hb6 := Lib.hid (Hb5.out.trans (hb6.mono Hb5.out.size))
    clear h6 h7 hb6 B5 Hb5 H5 H4b
    go_wp2_with fail
    go_loopg [6, 7] l7 (fun k s6 s7 wr => ∃ (x y : List Int) (Ax : Option Addr) (lx cx : Nat) (Ay : Option Addr) (cy : Nat), s6 = .slice Ax lx cx ∧ s7 = .slice Ay k cy ∧ ZP wr Ax lx cx x ∧ ZP wr Ay k cy y ∧ GS X x y ∧ ptrim x = x ∧ ZBox wr g3 s3 A3 l3 c3 K ∧ Below w.heap.size w wr)
    case atStart => exact ⟨_, _, A6, l6, c6, A7, c7, rfl, rfl, H6.out, H7.out, HX.out, gpair_trim f g, B6.out, Hb6.out⟩
    case round =>
      clear HX H6 H7 B6 Hb6
      obtain ⟨x, y, Ax, lx, cx, Ay, cy, rfl, rfl, hx, hy, hS, tx, hB, hbw⟩ := hrel
      have hws := hbw.size
      have lxl := hx.length
      have lyl := hy.length
      have Hx := Lib.hid hx
      have Hy := Lib.hid hy
      have HS := Lib.hid hS
      have Tx := Lib.hid tx
      have HB := Lib.hid hB
      have Hbw := Lib.hid hbw
      obtain ⟨ly, rfl⟩ : ∃ ly, ly = gk := ⟨_, rfl⟩
      have b0 := hB.c0
      have b1 := hB.c1
      clear hx hy hS tx hbw hB
      by_cases h0 : ly = 0
      · have hye : y = [] := List.eq_nil_of_length_eq_zero (by omega)
        have hxe : x = X := by
          rcases HS.out with ⟨_, h⟩ | ⟨a, b, m, n, G, N, ok, hf, hg, hR, _, _, _⟩
          · exact h
          · rcases hR.or_ with ⟨_, h⟩ | ⟨t, C, hi, _, h2, _⟩
            · exact h
            · exfalso
              have h3 := gp_length t.b
              rw [← h2, hye, hi.tb] at h3
              have := hi.b0
              simp at h3
              omega
        have Hxe := Lib.hid hxe
        clear hye hxe lyl
        subst h0
        go_wp2_with fail
        refine (zscale_any _ _ _ x _ _ _ _ K _ Hx.out HB.out.hz (by have := HXl.out; rw [← Hxe.out] at this; omega) (by rw [Hxe.out]; exact HXb.out) L3).mono ?_
        rintro e w8 ⟨A8, l8, c8, rfl, h8, _, hb8⟩
        have H8 := Lib.hid (show ZP w8 A8 l8 c8 (gres f g) by rw [← Hv.out, ← HK.out, ← Hxe.out]; exact h8)
        have Hb8 := Lib.hid (Hbw.out.trans (hb8.mono hws))
        clear h8 hb8
        go_wp2
        go_ret
        exact ⟨_, _, _, rfl, H8.out, fun h => h.elim, Hb8.out⟩
      · have t1 : (0 : Int) < (ly : Int) := by omega
        obtain ⟨k1, k2, k3, k4, k5, k6, k7⟩ := HS.out.step (fun e => by rw [e] at lyl; exact h0 lyl.symm)
        have K1 := Lib.hid k1
        have K2 := Lib.hid k2
        have ty : ptrim y = y := by unfold ptrim; rw [k3, List.take_length]
        have Ty := Lib.hid ty
        have y1 : 1 ≤ plen y := by omega
        have Hrs := Lib.hid (rrun_ps (f := x) (g := y) y1)
        have Zr := Lib.hid (psr_zb Tx.out ty y1 k4 k5 k6)
        have B4' := Lib.hid k4
        have B5' := Lib.hid k5
        have lpx := len_trim' Tx.out
        have hrl := psr_len x y
        have tr := Lib.hid (psr_ptrim x y)
        have hpx := Lib.hid lpx
        have hpy := Lib.hid k3
        have Y1 := Lib.hid y1
        have hp1 : 1 ≤ gsB := Nat.le_trans (by decide) gsB_a
        obtain ⟨E, hE, hEb⟩ := gsB_exp
        clear k1 k2 k3 k4 k5 ty y1 lpx
        go_wp2_with fail
        refine (rpseudo_any _ _ _ x _ _ _ y _ Hx.out Hy.out (by omega) (by omega) (by omega) hEb hE hp1 B4'.out B5'.out).mono ?_
        rintro e w8 ⟨A8, l8, c8, A9, l9, c9, rfl, _, h9, hb8⟩
        have h9' : ZP w8 A9 l9 c9 (psr x y) := by
          have h10 := Hrs.out
          rw [Tx.out, Ty.out, hpx.out, hpy.out] at h10
          rw [← lxl, ← lyl, h10] at h9
          exact h9
        have l9b : l9 ≤ 7 := by have := h9'.length; have := hpx.out; omega
        have H9 := Lib.hid h9'
        have Hy8 := Lib.hid (Hy.out.below hb8)
        have HB8 := Lib.hid (HB.out.move hb8)
        have Hb8 := Lib.hid (Hbw.out.trans (hb8.mono hws))
        clear h9 h9' hb8 Hx Hy HB Hbw b0 b1
        go_wp2_with fail
        refine (zprim_any _ _ _ (psr x y) _ H9.out tr.out (by omega) Zr.out).mono ?_
        rintro e w10 ⟨A10, l10, c10, rfl, h10, _, hb10⟩
        have hl10 : l10 < ly := by have := h10.length; have := K2.out; omega
        have H10 := Lib.hid h10
        have Hy10 := Lib.hid (Hy8.out.below hb10)
        have HB10 := Lib.hid (HB8.out.move hb10)
        have Hb10 := Lib.hid (Hb8.out.trans (hb10.mono Hb8.out.size))
        clear h10 hb10 Hy8 HB8 Hb8 H9
        go_wp2
        go_roundg l10
        case measure => exact hl10
        case rel => exact ⟨y, _, _, _, _, _, _, rfl, rfl, Hy10.out, H10.out, K1.out, Ty.out, HB10.out, Hb10.out⟩
end Go.Proofs.YtgblfpkfapmlnaaGreat
