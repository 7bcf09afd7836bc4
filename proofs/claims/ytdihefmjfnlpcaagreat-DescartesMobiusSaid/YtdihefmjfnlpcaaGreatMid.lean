/- The walk of rational.Mid; one box that a region makes. -/
import Derived.Test.YtdihefmjfnlpcaaGreatRatD
import Derived.Test.YtdihefmjfnlpcaaGreatGcdA
import Derived.Test.YtdihefmjfnlpcaaGreatQuo
import Derived.Test.YtdihefmjfnlpcaaGreatLcm
import Derived.Test.YtdihefmjfnlpcaaGreatCmd
/- rational.reduce for numbers of all sizes. -/
namespace Go.Proofs.YtdihefmjfnlpcaaGreat
open Go.RowKit

set_option maxRecDepth 100000 in
set_option maxHeartbeats 4000000 in
theorem reduce_all (n : Bool) (A : Option Addr) (l c : Nat) (z : Int) (n' : Bool) (A' : Option Addr) (l' c' : Nat) (q : Nat) (w : World) (hz : IntN w n A l c z) (hq : IntN w n' A' l' c' (q : Int)) (hsz : SmI z) (hsq : SmI (q : Int)) (h0 : 0 < q) :
    Calls Tryz.prog 66 #[.agg #[.bool n, .slice A l c], .agg #[.bool n', .slice A' l' c']] w fun e w' => RatE (z.tdiv (Nat.gcd z.natAbs q)) (q / Nat.gcd z.natAbs q) e w' ∧ Below w.heap.size w w' := by
  have hbx : Below w.heap.size w (w.alloc (ibox n A l c)) := (Below.refl _ _).alloc (Nat.le_refl _) _
  have hby : Below (w.alloc (ibox n A l c)).heap.size (w.alloc (ibox n A l c)) ((w.alloc (ibox n A l c)).alloc (ibox n' A' l' c')) := (Below.refl _ _).alloc (Nat.le_refl _) _
  have hbz : Below ((w.alloc (ibox n A l c)).alloc (ibox n' A' l' c')).heap.size ((w.alloc (ibox n A l c)).alloc (ibox n' A' l' c')) (((w.alloc (ibox n A l c)).alloc (ibox n' A' l' c')).alloc (rbox false none 0 0 none 0 0)) := (Below.refl _ _).alloc (Nat.le_refl _) _
  have HN := Lib.hid (((IBox.make hz).move hby).move hbz)
  have hd := (IBox.make (hq.below hbx)).move hbz
  have hr := RBox.nil ((w.alloc (ibox n A l c)).alloc (ibox n' A' l' c'))
  simp only [World.size_alloc] at hd hr
  have HD := Lib.hid hd
  have HR := Lib.hid hr
  have hb0 := hbx.trans ((hby.trans (hbz.mono hby.size)).mono hbx.size)
  have Hb0 := Lib.hid hb0
  have hgq : Nat.gcd z.natAbs q ≤ q := Nat.gcd_le_right _ h0
  have hg0 : 0 < Nat.gcd z.natAbs q := Nat.gcd_pos_of_pos_right _ h0
  have e0 := HN.out.c0
  have e1 := HN.out.c1
  have e2 := HD.out.c0
  have e3 := HD.out.c1
  clear hz hq hbx hby hbz hd hr hb0
  go_enter Tryz.func66, Tryz.ntmps66
  go_wp2_with fail
  refine (gcd_all _ _ _ _ _ _ _ _ _ _ _ HN.out.hz.at_ HD.out.hz.at_ hsz hsq).mono ?_
  rintro e w1 ⟨n1, A1, l1, c1, rfl, h1, hb1⟩
  rw [Int.natAbs_natCast] at h1
  obtain ⟨G, hG⟩ : ∃ G, G = Nat.gcd z.natAbs q := ⟨_, rfl⟩
  rw [← hG] at h1 hgq hg0
  have HG := Lib.hid hG
  have hsz1 := hb1.size
  simp only [World.size_alloc] at hsz1
  have hlt : w.heap.size + 1 + 1 < w1.heap.size := by omega
  have hba : Below w1.heap.size w1 (w1.alloc (ibox n1 A1 l1 c1)) := (Below.refl _ _).alloc (Nat.le_refl _) _
  have HN1 := Lib.hid ((HN.out.move hb1).move hba)
  have HD1 := Lib.hid ((HD.out.move hb1).move hba)
  have HR1 := Lib.hid ((HR.out.move hb1).move hba)
  have HG1 := Lib.hid (IBox.make h1)
  have Hb1 := Lib.hid ((Hb0.out.trans (hb1.mono Hb0.out.size)).trans (hba.mono (Hb0.out.trans (hb1.mono Hb0.out.size)).size))
  have hsG : SmI (G : Int) := Sm.mono hsq (by rw [Int.natAbs_natCast, Int.natAbs_natCast]; exact hgq)
  have hne : (G : Int) ≠ 0 := by omega
  clear hG h1 hb1 hba HN HD HR Hb0 e0 e1 e2 e3
  have e0 := HN1.out.c0
  have e1 := HN1.out.c1
  have e2 := HG1.out.c0
  have e3 := HG1.out.c1
  go_wp2_with fail
  refine (quo_all _ _ _ _ _ _ _ _ _ _ _ HN1.out.hz.at_ HG1.out.hz.at_ hsz hsG hne).mono ?_
  rintro e w2 ⟨n2, A2, l2, c2, n3, A3, l3, c3, rfl, h2, h3, hb2⟩
  have hN2 := HN1.out.move hb2
  have hD2 := HD1.out.move hb2
  have hR2 := HR1.out.move hb2
  have hG2 := HG1.out.move hb2
  have HN3 := Lib.hid (hN2.put h2)
  have HD3 := Lib.hid (hD2.far hN2 (by omega) (.bool n2) (.slice A2 l2 c2))
  have HR3 := Lib.hid (hR2.farI hN2 (by omega) (.bool n2) (.slice A2 l2 c2))
  have HG3 := Lib.hid (hG2.far hN2 (by omega) (.bool n2) (.slice A2 l2 c2))
  have Hb3 := Lib.hid (((Hb1.out.trans (hb2.mono Hb1.out.size)).setCell (p := ⟨w.heap.size, 0, none⟩) (Nat.le_refl _) (.bool n2)).setCell (p := ⟨w.heap.size, 1, none⟩) (Nat.le_refl _) (.slice A2 l2 c2))
  clear e0 e1 e2 e3
  have e0 := hN2.c0
  have e1 := hN2.c1
  have e2 := hN2.f0
  have e3 := hN2.f1
  obtain ⟨W3, hW3⟩ : ∃ W3, W3 = put2 w2 w.heap.size n2 A2 l2 c2 := ⟨_, rfl⟩
  have Hn2 := Lib.hid hN2
  have Hd2 := Lib.hid hD2
  have Hg2 := Lib.hid hG2
  clear h2 h3 hb2 hN2 hD2 hR2 hG2 HN1 HD1 HR1 HG1 Hb1 hW3
  have d0 := Hd2.out.c0
  have d1 := Hd2.out.c1
  have d2 := Hg2.out.c0
  have d3 := Hg2.out.c1
  have ne1 : w.heap.size ≠ w.heap.size + 1 := by omega
  have ne2 : w.heap.size ≠ w1.heap.size := by omega
  have ne3 : w.heap.size + 1 ≠ w1.heap.size := by omega
  go_wp2_with fail
  refine (quo_all _ _ _ _ _ _ _ _ _ _ _ HD3.out.hz.at_ HG3.out.hz.at_ hsq hsG hne).mono ?_
  rintro e w4 ⟨n4, A4, l4, c4, n5, A5, l5, c5, rfl, h4, h5, hb4⟩
  have hN4 := HN3.out.move hb4
  have hD4 := HD3.out.move hb4
  have hR4 := HR3.out.move hb4
  have HN5 := Lib.hid (hN4.far hD4 (by omega) (.bool n4) (.slice A4 l4 c4))
  have HD5 := Lib.hid (hD4.put h4)
  have HR5 := Lib.hid (hR4.farI hD4 (by omega) (.bool n4) (.slice A4 l4 c4))
  have Hb5 := Lib.hid (((Hb3.out.trans (hb4.mono Hb3.out.size)).setCell (p := ⟨w.heap.size + 1, 0, none⟩) (by simp) (.bool n4)).setCell (p := ⟨w.heap.size + 1, 1, none⟩) (by simp) (.slice A4 l4 c4))
  have a0 := hN4.c0
  have a1 := hN4.c1
  have a2 := hD4.c0
  have a3 := hD4.c1
  have a4 := hD4.f0
  have a5 := hD4.f1
  have r0 := hR4.c0
  have r1 := hR4.c1
  have r2 := hR4.c2
  have r3 := hR4.f0
  have r4 := hR4.f1
  have r5 := hR4.f2
  have hnat : (((q : Int).tdiv (G : Int))).natAbs = q / G := by
    show (((q / G : Nat) : Int)).natAbs = _
    rw [Int.natAbs_natCast]
  have hq5 := HD5.out.hz.nat
  rw [hnat] at hq5
  have HP := Lib.hid (HR5.out.put HN5.out.hz hq5)
  have ne4 : w.heap.size + 1 + 1 ≠ w.heap.size := by omega
  have ne5 : w.heap.size + 1 + 1 ≠ w.heap.size + 1 := by omega
  clear h4 h5 hb4 hN4 hD4 hR4 HN3 HD3 HR3 HG3 Hb3 d0 d1 d2 d3 Hn2 Hd2 Hg2 e0 e1 e2 e3 hq5 hnat
  go_wp2
  refine bodyPost_ret (v := .agg #[.bool n2, .slice A2 l2 c2, .slice A4 l4 c4]) (by simp [results, Tryz.results66, go_sem, r0, r1, r2]) rfl ⟨⟨_, _, _, _, _, _, _, rfl, ?_, ?_⟩, ?_⟩
  · rw [← HG.out]; exact HP.out.hz
  · rw [← HG.out]; exact HP.out.hq
  · exact ((Hb5.out.setCell (p := ⟨w.heap.size + 1 + 1, 0, none⟩) (by first | (simp; done) | (simp; omega) | omega) _).setCell (p := ⟨w.heap.size + 1 + 1, 1, none⟩) (by first | (simp; done) | (simp; omega) | omega) _).setCell (p := ⟨w.heap.size + 1 + 1, 2, none⟩) (by first | (simp; done) | (simp; omega) | omega) _
end Go.Proofs.YtdihefmjfnlpcaaGreat

/- The walk of rational.Mid; one box that a region makes. -/
namespace Go.Proofs.YtdihefmjfnlpcaaGreat
open Go.RowKit

/-- a new box, wherever it was made -/
def One (W : World) (z : Int) (s : Value) (wx : World) : Prop := ∃ g n A l c, s = .pointer (some ⟨g, 0, none⟩) ∧ W.heap.size ≤ g ∧ IBox wx g n A l c z ∧ Below W.heap.size W wx
section
variable {W w9 : World} {n : Bool} {A : Option Addr} {l c g : Nat} {z : Int}
theorem one_a (H : IntN w9 n A l c z) (hb : Below W.heap.size W w9) : One W z (.pointer (some ⟨w9.heap.size, 0, none⟩)) (w9.alloc (ibox n A l c)) :=
  ⟨_, _, _, _, _, rfl, hb.size, IBox.make H, hb.alloc hb.size _⟩
theorem one_c (h : Nbx w9 g) (H : IntN w9 n A l c z) (hb : Below W.heap.size W w9) (hg : W.heap.size ≤ g) : One W z (.pointer (some ⟨g, 0, none⟩)) ((w9.setCell ⟨g, 0, none⟩ (.bool n)).setCell ⟨g, 1, none⟩ (.slice A l c)) :=
  ⟨_, _, _, _, _, rfl, hg, h.box.put H, below_put2 hb hg _ _⟩
end

set_option maxRecDepth 100000 in
set_option maxHeartbeats 8000000 in
theorem mid_any (n : Bool) (A : Option Addr) (l c : Nat) (B : Option Addr) (m d q : Nat) (z : Int) (n' : Bool) (A' : Option Addr) (l' c' : Nat) (B' : Option Addr) (m' d' q' : Nat) (z' : Int) (w : World) (hz : IntN w n A l c z) (hq : NatN w B m d q) (hz' : IntN w n' A' l' c' z') (hq' : NatN w B' m' d' q') (fz : Fit z) (fq : Fit (q : Int)) (h0 : 0 < q) (fz' : Fit z') (fq' : Fit (q' : Int)) (h0' : 0 < q') :
    Calls Tryz.prog 31 #[.agg #[.bool n, .slice A l c, .slice B m d], .agg #[.bool n', .slice A' l' c', .slice B' m' d']] w fun e w' => RatE ((z * (q' : Int) + z' * (q : Int)).tdiv (Nat.gcd (z * (q' : Int) + z' * (q : Int)).natAbs (q * q' * 2))) (q * q' * 2 / Nat.gcd (z * (q' : Int) + z' * (q : Int)).natAbs (q * q' * 2)) e w' ∧ Below w.heap.size w w' := by
  have sq := fq.smn
  have sq' := fq'.smn
  obtain ⟨S1, hS1⟩ : ∃ S1, S1 = z * (q' : Int) := ⟨_, rfl⟩
  obtain ⟨S2, hS2⟩ : ∃ S2, S2 = z' * (q : Int) := ⟨_, rfl⟩
  obtain ⟨DD, hDD⟩ : ∃ DD, DD = q * q' * 2 := ⟨_, rfl⟩
  have ss1 : SmI S1 := by rw [hS1]; exact fz.sm2 fq'
  have ss2 : SmI S2 := by rw [hS2]; exact fz'.sm2 fq
  have ssum : Sm (S1.natAbs + S2.natAbs) := by
    have a1 := fz.mul fq'
    have a2 := fz'.mul fq
    rw [← hS1] at a1
    rw [← hS2] at a2
    refine sm_pow (k := 81) ?_ (by omega)
    have a3 : 2 * BB ^ 80 < BB ^ 81 := mulpow_lt (by omega)
    omega
  have sS : SmI (S1 + S2) := Sm.mono ssum (Int.natAbs_add_le _ _)
  have sqq : SmI ((q : Int) * (q' : Int)) := fq.sm2 fq'
  have sD : SmI (DD : Int) := by
    have a1 := fq.mul fq'
    refine sm_pow (k := 81) ?_ (by omega)
    rw [hDD]
    have a3 : 2 * BB ^ 80 < BB ^ 81 := mulpow_lt (by omega)
    rw [Int.natAbs_natCast]
    rw [Int.natAbs_mul, Int.natAbs_natCast, Int.natAbs_natCast] at a1
    omega
  have hD0 : 0 < DD := by rw [hDD]; exact Nat.mul_pos (Nat.mul_pos h0 h0') (by omega)
  rw [← hS1, ← hS2, ← hDD]
  have HS1 := Lib.hid hS1
  have HS2 := Lib.hid hS2
  have HDD := Lib.hid hDD
  clear hS1 hS2 hDD
  have o1 := below_new w (rbox n A l c B m d)
  have o2 := below_new (w.alloc (rbox n A l c B m d)) (rbox n' A' l' c' B' m' d')
  have o3 := below_new ((w.alloc (rbox n A l c B m d)).alloc (rbox n' A' l' c' B' m' d')) (rbox false none 0 0 none 0 0)
  have b3 : Below w.heap.size w (((w.alloc (rbox n A l c B m d)).alloc (rbox n' A' l' c' B' m' d')).alloc (rbox false none 0 0 none 0 0)) := (o1.alloc (by simp) _).alloc (by simp; omega) _
  have R1 := ((RBox.make hz hq).move o2).move o3
  have R2 := (RBox.make (hz'.below o1) (hq'.below o1)).move o3
  have R4 := RBox.nil ((w.alloc (rbox n A l c B m d)).alloc (rbox n' A' l' c' B' m' d'))
  simp only [World.size_alloc] at R2 R4
  replace R1 := Lib.hid R1
  replace R2 := Lib.hid R2
  replace R4 := Lib.hid R4
  have Hb := Lib.hid b3
  clear o1 o2 o3 b3 hz hq hz' hq'
  go_enter Tryz.func31, Tryz.ntmps31
  go_wp2_with fail
  refine (parts_any _ _ _ _ _ _ _ _ _ R1.out.hq.at_ sq (by omega)).mono ?_
  rintro e w1 ⟨rfl, hb1⟩
  replace R1 := Lib.hid (R1.out.move hb1)
  replace R2 := Lib.hid (R2.out.move hb1)
  replace R4 := Lib.hid (R4.out.move hb1)
  replace Hb := Lib.hid (Hb.out.trans (hb1.mono Hb.out.size))
  have lt4 : w.heap.size + 1 + 1 < w1.heap.size := R4.out.lt
  have x0 := R2.out.c0
  have x1 := R2.out.c1
  have x2 := R2.out.c2
  have ltx : w.heap.size + 1 < w1.heap.size := by omega
  have lty : w.heap.size + 1 < w1.heap.size + 1 := by omega
  clear hb1
  go_wp2_with fail
  have k1 := below_new w1 (ibox n A l c)
  have k2 := below_new (w1.alloc (ibox n A l c)) (ibox false B m d)
  have kb : Below w1.heap.size w1 ((w1.alloc (ibox n A l c)).alloc (ibox false B m d)) := k1.alloc (by simp) _
  have i5 := (IBox.make R1.out.hz).move k2
  have hqP : IntN w1 false B m d (q : Int) := ⟨by rw [Int.natAbs_natCast]; exact R1.out.hq, by simp⟩
  have i6 := IBox.make (hqP.below k1)
  simp only [World.size_alloc] at i6
  replace R2 := Lib.hid (R2.out.move kb)
  replace R4 := Lib.hid (R4.out.move kb)
  replace Hb := Lib.hid (Hb.out.trans (kb.mono Hb.out.size))
  have I5 := Lib.hid i5
  have I6 := Lib.hid i6
  clear k1 k2 kb i5 i6 hqP R1 x0 x1 x2
  refine (parts_any _ _ _ _ _ _ _ _ _ R2.out.hq.at_ sq' (by omega)).mono ?_
  rintro e w2 ⟨rfl, hb2⟩
  have hsz2 := hb2.size
  simp only [World.size_alloc] at hsz2
  replace I5 := Lib.hid (I5.out.move hb2)
  replace I6 := Lib.hid (I6.out.move hb2)
  replace R2 := Lib.hid (R2.out.move hb2)
  replace R4 := Lib.hid (R4.out.move hb2)
  replace Hb := Lib.hid (Hb.out.trans (hb2.mono Hb.out.size))
  have k1 := below_new w2 (ibox n' A' l' c')
  have k2 := below_new (w2.alloc (ibox n' A' l' c')) (ibox false B' m' d')
  have kb : Below w2.heap.size w2 ((w2.alloc (ibox n' A' l' c')).alloc (ibox false B' m' d')) := k1.alloc (by simp) _
  have i7 := (IBox.make R2.out.hz).move k2
  have hqP : IntN w2 false B' m' d' (q' : Int) := ⟨by rw [Int.natAbs_natCast]; exact R2.out.hq, by simp⟩
  have i8 := IBox.make (hqP.below k1)
  simp only [World.size_alloc] at i8
  replace I5 := Lib.hid (I5.out.move kb)
  replace I6 := Lib.hid (I6.out.move kb)
  replace R4 := Lib.hid (R4.out.move kb)
  replace Hb := Lib.hid (Hb.out.trans (kb.mono Hb.out.size))
  have I7 := Lib.hid i7
  have I8 := Lib.hid i8
  clear k1 k2 kb i7 i8 hqP R2 hb2
  obtain ⟨wc, hwc⟩ : ∃ wc, wc = (w2.alloc (ibox n' A' l' c')).alloc (ibox false B' m' d') := ⟨_, rfl⟩
  have hszc : wc.heap.size = w2.heap.size + 1 + 1 := by rw [hwc]; simp
  go_wp2_with fail
  rw [← hwc] at I5 I6 I7 I8 R4 Hb ⊢
  clear hwc
  obtain ⟨g4, hg4⟩ : ∃ g, g = w.heap.size + 1 + 1 := ⟨_, rfl⟩
  obtain ⟨g5, hg5⟩ : ∃ g, g = w1.heap.size := ⟨_, rfl⟩
  obtain ⟨g6, hg6⟩ : ∃ g, g = w1.heap.size + 1 := ⟨_, rfl⟩
  obtain ⟨g7, hg7⟩ : ∃ g, g = w2.heap.size := ⟨_, rfl⟩
  obtain ⟨g8, hg8⟩ : ∃ g, g = w2.heap.size + 1 := ⟨_, rfl⟩
  rw [← hg4] at R4
  rw [← hg5] at I5
  rw [← hg6] at I6
  rw [← hg7] at I7
  rw [← hg8] at I8
  rw [← hg4, ← hg6, ← hg5, ← hg8, ← hg7]
  have l4 : g4 < wc.heap.size := by omega
  have l4w : w.heap.size < g4 := by omega
  have l5 : g5 < wc.heap.size := by omega
  have l6 : g6 < wc.heap.size := by omega
  have l7 : g7 < wc.heap.size := by omega
  have l8 : g8 < wc.heap.size := by omega
  clear hg4 hg5 hg6 hg7 hg8 hszc hsz2 lt4 ltx lty
  have a0 := I5.out.c0
  have a1 := I5.out.c1
  have b0 := I6.out.c0
  have b1 := I6.out.c1
  have d0 := I7.out.c0
  have d1 := I7.out.c1
  have e0 := I8.out.c0
  have e1 := I8.out.c1
  go_cut [9] (fun s9 wx => One wc (S1 + S2) s9 wx)
  case first =>
    have nl4 : wc.heap.size ≠ g4 := by omega
    have nl5 : wc.heap.size ≠ g5 := by omega
    have nl6 : wc.heap.size ≠ g6 := by omega
    have nl7 : wc.heap.size ≠ g7 := by omega
    have nl8 : wc.heap.size ≠ g8 := by omega
    go_region_held3 (fun w' => w'.cell? ⟨g5, 0, none⟩ = some (.bool n) ∧ w'.cell? ⟨g5, 1, none⟩ = some (.slice A l c) ∧ w'.cell? ⟨g6, 0, none⟩ = some (.bool false) ∧ w'.cell? ⟨g6, 1, none⟩ = some (.slice B m d) ∧ w'.cell? ⟨g7, 0, none⟩ = some (.bool n') ∧ w'.cell? ⟨g7, 1, none⟩ = some (.slice A' l' c') ∧ w'.cell? ⟨g8, 0, none⟩ = some (.bool false) ∧ w'.cell? ⟨g8, 1, none⟩ = some (.slice B' m' d')) (go_keep) (first
      | (go_at_call 48; (have _hx := H8); go_must (refine (imul_any _ _ _ _ _ _ _ _ _ _ _ ?_ ?_ fz'.sm fq.sm (fz'.mulok _)).mono ?_; (exact ((I7.out.move Hb8.out).hz.at_.below (by (repeat (first | exact Below.refl _ _ | refine Below.drew ?_ | refine Below.alloc ?_ (by first | (simp; done) | (simp; omega) | omega) _ | refine Below.setCell ?_ (by first | (simp; done) | (simp; omega) | omega) _))))); (exact ((I6.out.move Hb8.out).hz.at_.below (by (repeat (first | exact Below.refl _ _ | refine Below.drew ?_ | refine Below.alloc ?_ (by first | (simp; done) | (simp; omega) | omega) _ | refine Below.setCell ?_ (by first | (simp; done) | (simp; omega) | omega) _))))); rintro e w9 ⟨n9, A9, l9, c9, rfl, h9, hb9⟩; rw [← HS2.out] at h9; have H9 := Lib.hid h9; have H8' := Lib.hid (H8.out.below (Below.trans (by (repeat (first | exact Below.refl _ _ | refine Below.drew ?_ | refine Below.alloc ?_ (by first | (simp; done) | (simp; omega) | omega) _ | refine Below.setCell ?_ (by first | (simp; done) | (simp; omega) | omega) _))) (hb9.mono (by simp <;> omega)))); have Hb9 : Hid (Below wc.heap.size wc w9) := Lib.hid (Hb8.out.trans ((Below.trans (by (repeat (first | exact Below.refl _ _ | refine Below.drew ?_ | refine Below.alloc ?_ (by first | (simp; done) | (simp; omega) | omega) _ | refine Below.setCell ?_ (by first | (simp; done) | (simp; omega) | omega) _))) (hb9.mono (by simp <;> omega))).mono Hb8.out.size)); have zz := hb9.size; (try simp only [World.size_alloc] at zz); have v4 : w9.heap.size ≠ g5 := (by omega); have v5 : w9.heap.size ≠ g6 := (by omega); have v6 : w9.heap.size ≠ g7 := (by omega); have v7 : w9.heap.size ≠ g8 := (by omega); obtain ⟨hcx, hfx⟩ := bcellS hb9; have j0 : World.cell? w9 ⟨g5, 0, none⟩ = some (.bool n) := (hcx _ (by go_simp)).trans (by go_simp); have j1 : World.cell? w9 ⟨g5, 1, none⟩ = some (.slice A l c) := (hcx _ (by go_simp)).trans (by go_simp); have j2 : World.cell? w9 ⟨g6, 0, none⟩ = some (.bool false) := (hcx _ (by go_simp)).trans (by go_simp); have j3 : World.cell? w9 ⟨g6, 1, none⟩ = some (.slice B m d) := (hcx _ (by go_simp)).trans (by go_simp); have j4 : World.cell? w9 ⟨g7, 0, none⟩ = some (.bool n') := (hcx _ (by go_simp)).trans (by go_simp); have j5 : World.cell? w9 ⟨g7, 1, none⟩ = some (.slice A' l' c') := (hcx _ (by go_simp)).trans (by go_simp); have j6 : World.cell? w9 ⟨g8, 0, none⟩ = some (.bool false) := (hcx _ (by go_simp)).trans (by go_simp); have j7 : World.cell? w9 ⟨g8, 1, none⟩ = some (.slice B' m' d') := (hcx _ (by go_simp)).trans (by go_simp); (try (have cra : World.cell? w9 ⟨wc.heap.size, 0, none⟩ = some (.bool false) := ?_; rotate_left; (focus (refine (hcx _ ?_).trans ?_ <;> (go_simp; done))); have crb : World.cell? w9 ⟨wc.heap.size, 1, none⟩ = some (.slice none 0 0) := ?_; rotate_left; (focus (refine (hcx _ ?_).trans ?_ <;> (go_simp; done))); have crc : World.frozen? w9 ⟨wc.heap.size, 0, none⟩ = false := ?_; rotate_left; (focus (refine (hfx _ ?_).trans ?_ <;> (go_simp; done))); have crd : World.frozen? w9 ⟨wc.heap.size, 1, none⟩ = false := ?_; rotate_left; (focus (refine (hfx _ ?_).trans ?_ <;> (go_simp; done))); have cre : wc.heap.size < w9.heap.size := (by omega); have crn := Lib.hid (Nbx.mk cra crb crc crd cre))); (try (have cta : World.cell? w9 ⟨w8.heap.size, 0, none⟩ = some (.bool false) := ?_; rotate_left; (focus (refine (hcx _ ?_).trans ?_ <;> (go_simp; done))); have ctb : World.cell? w9 ⟨w8.heap.size, 1, none⟩ = some (.slice none 0 0) := ?_; rotate_left; (focus (refine (hcx _ ?_).trans ?_ <;> (go_simp; done))); have ctc : World.frozen? w9 ⟨w8.heap.size, 0, none⟩ = false := ?_; rotate_left; (focus (refine (hfx _ ?_).trans ?_ <;> (go_simp; done))); have ctd : World.frozen? w9 ⟨w8.heap.size, 1, none⟩ = false := ?_; rotate_left; (focus (refine (hfx _ ?_).trans ?_ <;> (go_simp; done))); have cte : w8.heap.size < w9.heap.size := (by omega); have ctn := Lib.hid (Nbx.mk cta ctb ctc ctd cte))); clear h9 hcx hfx hb9))
      | (go_at_call 48; go_must (refine (imul_any _ _ _ _ _ _ _ _ _ _ _ ?_ ?_ fz.sm fq'.sm (fz.mulok _)).mono ?_; (exact (I5.out.hz.at_.below (by (repeat (first | exact Below.refl _ _ | refine Below.drew ?_ | refine Below.alloc ?_ (by first | (simp; done) | (simp; omega) | omega) _ | refine Below.setCell ?_ (by first | (simp; done) | (simp; omega) | omega) _))))); (exact (I8.out.hz.at_.below (by (repeat (first | exact Below.refl _ _ | refine Below.drew ?_ | refine Below.alloc ?_ (by first | (simp; done) | (simp; omega) | omega) _ | refine Below.setCell ?_ (by first | (simp; done) | (simp; omega) | omega) _))))); rintro e w8 ⟨n8, A8, l8, c8, rfl, h8, hb8⟩; rw [← HS1.out] at h8; have H8 := Lib.hid h8; have Hb8 : Hid (Below wc.heap.size wc w8) := Lib.hid (Below.trans (by (repeat (first | exact Below.refl _ _ | refine Below.drew ?_ | refine Below.alloc ?_ (by first | (simp; done) | (simp; omega) | omega) _ | refine Below.setCell ?_ (by first | (simp; done) | (simp; omega) | omega) _))) (hb8.mono (by simp <;> omega))); have zy := hb8.size; (try simp only [World.size_alloc, World.size_drew] at zy); have v0 : w8.heap.size ≠ g5 := (by omega); have v1 : w8.heap.size ≠ g6 := (by omega); have v2 : w8.heap.size ≠ g7 := (by omega); have v3 : w8.heap.size ≠ g8 := (by omega); obtain ⟨hcx, hfx⟩ := bcellS hb8; have i0 : World.cell? w8 ⟨g5, 0, none⟩ = some (.bool n) := (hcx _ (by go_simp)).trans (by go_simp); have i1 : World.cell? w8 ⟨g5, 1, none⟩ = some (.slice A l c) := (hcx _ (by go_simp)).trans (by go_simp); have i2 : World.cell? w8 ⟨g6, 0, none⟩ = some (.bool false) := (hcx _ (by go_simp)).trans (by go_simp); have i3 : World.cell? w8 ⟨g6, 1, none⟩ = some (.slice B m d) := (hcx _ (by go_simp)).trans (by go_simp); have i4 : World.cell? w8 ⟨g7, 0, none⟩ = some (.bool n') := (hcx _ (by go_simp)).trans (by go_simp); have i5 : World.cell? w8 ⟨g7, 1, none⟩ = some (.slice A' l' c') := (hcx _ (by go_simp)).trans (by go_simp); have i6 : World.cell? w8 ⟨g8, 0, none⟩ = some (.bool false) := (hcx _ (by go_simp)).trans (by go_simp); have i7 : World.cell? w8 ⟨g8, 1, none⟩ = some (.slice B' m' d') := (hcx _ (by go_simp)).trans (by go_simp); (try (have cpa : World.cell? w8 ⟨wc.heap.size, 0, none⟩ = some (.bool false) := ?_; rotate_left; (focus (refine (hcx _ ?_).trans ?_ <;> (go_simp; done))); have cpb : World.cell? w8 ⟨wc.heap.size, 1, none⟩ = some (.slice none 0 0) := ?_; rotate_left; (focus (refine (hcx _ ?_).trans ?_ <;> (go_simp; done))); have cpc : World.frozen? w8 ⟨wc.heap.size, 0, none⟩ = false := ?_; rotate_left; (focus (refine (hfx _ ?_).trans ?_ <;> (go_simp; done))); have cpd : World.frozen? w8 ⟨wc.heap.size, 1, none⟩ = false := ?_; rotate_left; (focus (refine (hfx _ ?_).trans ?_ <;> (go_simp; done))); have cpe : wc.heap.size < w8.heap.size := (by omega); have cpn := Lib.hid (Nbx.mk cpa cpb cpc cpd cpe))); clear h8 hcx hfx hb8))
      | (go_at_call 65; go_must (refine (iadd_any _ _ _ _ _ _ _ _ _ _ _ ?_ ?_ ss1 ss2 ssum).mono ?_; (exact H8'.out.at_.below (by (repeat (first | exact Below.refl _ _ | refine Below.drew ?_ | refine Below.alloc ?_ (by first | (simp; done) | (simp; omega) | omega) _ | refine Below.setCell ?_ (by first | (simp; done) | (simp; omega) | omega) _)))); (exact H9.out.at_.below (by (repeat (first | exact Below.refl _ _ | refine Below.drew ?_ | refine Below.alloc ?_ (by first | (simp; done) | (simp; omega) | omega) _ | refine Below.setCell ?_ (by first | (simp; done) | (simp; omega) | omega) _)))); rintro e w10 ⟨n10, A10, l10, c10, rfl, h10, hb10⟩; have H10 := Lib.hid h10; have Hb10 : Hid (Below wc.heap.size wc w10) := Lib.hid (Hb9.out.trans ((Below.trans (by (repeat (first | exact Below.refl _ _ | refine Below.drew ?_ | refine Below.alloc ?_ (by first | (simp; done) | (simp; omega) | omega) _ | refine Below.setCell ?_ (by first | (simp; done) | (simp; omega) | omega) _))) (hb10.mono (by simp <;> omega))).mono Hb9.out.size)); have zw := hb10.size; (try simp only [World.size_alloc] at zw); have v8 : w10.heap.size ≠ g5 := (by omega); have v9 : w10.heap.size ≠ g6 := (by omega); have v10 : w10.heap.size ≠ g7 := (by omega); have v11 : w10.heap.size ≠ g8 := (by omega); obtain ⟨hcx, hfx⟩ := bcellS hb10; have k0 : World.cell? w10 ⟨g5, 0, none⟩ = some (.bool n) := (hcx _ (by go_simp)).trans (by go_simp); have k1 : World.cell? w10 ⟨g5, 1, none⟩ = some (.slice A l c) := (hcx _ (by go_simp)).trans (by go_simp); have k2 : World.cell? w10 ⟨g6, 0, none⟩ = some (.bool false) := (hcx _ (by go_simp)).trans (by go_simp); have k3 : World.cell? w10 ⟨g6, 1, none⟩ = some (.slice B m d) := (hcx _ (by go_simp)).trans (by go_simp); have k4 : World.cell? w10 ⟨g7, 0, none⟩ = some (.bool n') := (hcx _ (by go_simp)).trans (by go_simp); have k5 : World.cell? w10 ⟨g7, 1, none⟩ = some (.slice A' l' c') := (hcx _ (by go_simp)).trans (by go_simp); have k6 : World.cell? w10 ⟨g8, 0, none⟩ = some (.bool false) := (hcx _ (by go_simp)).trans (by go_simp); have k7 : World.cell? w10 ⟨g8, 1, none⟩ = some (.slice B' m' d') := (hcx _ (by go_simp)).trans (by go_simp); (try (have cua : World.cell? w10 ⟨wc.heap.size, 0, none⟩ = some (.bool false) := ?_; rotate_left; (focus (refine (hcx _ ?_).trans ?_ <;> (go_simp; done))); have cub : World.cell? w10 ⟨wc.heap.size, 1, none⟩ = some (.slice none 0 0) := ?_; rotate_left; (focus (refine (hcx _ ?_).trans ?_ <;> (go_simp; done))); have cuc : World.frozen? w10 ⟨wc.heap.size, 0, none⟩ = false := ?_; rotate_left; (focus (refine (hfx _ ?_).trans ?_ <;> (go_simp; done))); have cud : World.frozen? w10 ⟨wc.heap.size, 1, none⟩ = false := ?_; rotate_left; (focus (refine (hfx _ ?_).trans ?_ <;> (go_simp; done))); have cue : wc.heap.size < w10.heap.size := (by omega); have cun := Lib.hid (Nbx.mk cua cub cuc cud cue))); (try (have cva : World.cell? w10 ⟨w8.heap.size, 0, none⟩ = some (.bool false) := ?_; rotate_left; (focus (refine (hcx _ ?_).trans ?_ <;> (go_simp; done))); have cvb : World.cell? w10 ⟨w8.heap.size, 1, none⟩ = some (.slice none 0 0) := ?_; rotate_left; (focus (refine (hcx _ ?_).trans ?_ <;> (go_simp; done))); have cvc : World.frozen? w10 ⟨w8.heap.size, 0, none⟩ = false := ?_; rotate_left; (focus (refine (hfx _ ?_).trans ?_ <;> (go_simp; done))); have cvd : World.frozen? w10 ⟨w8.heap.size, 1, none⟩ = false := ?_; rotate_left; (focus (refine (hfx _ ?_).trans ?_ <;> (go_simp; done))); have cve : w8.heap.size < w10.heap.size := (by omega); have cvn := Lib.hid (Nbx.mk cva cvb cvc cvd cve))); (try (have cwa : World.cell? w10 ⟨w9.heap.size, 0, none⟩ = some (.bool false) := ?_; rotate_left; (focus (refine (hcx _ ?_).trans ?_ <;> (go_simp; done))); have cwb : World.cell? w10 ⟨w9.heap.size, 1, none⟩ = some (.slice none 0 0) := ?_; rotate_left; (focus (refine (hcx _ ?_).trans ?_ <;> (go_simp; done))); have cwc : World.frozen? w10 ⟨w9.heap.size, 0, none⟩ = false := ?_; rotate_left; (focus (refine (hfx _ ?_).trans ?_ <;> (go_simp; done))); have cwd : World.frozen? w10 ⟨w9.heap.size, 1, none⟩ = false := ?_; rotate_left; (focus (refine (hfx _ ?_).trans ?_ <;> (go_simp; done))); have cwe : w9.heap.size < w10.heap.size := (by omega); have cwn := Lib.hid (Nbx.mk cwa cwb cwc cwd cwe))); clear h10 hcx hfx hb10)))
    all_goals go_wp2_with fail
    all_goals go_meet
    all_goals (rename_i hHeld; clear hHeld I5 I6 I7 I8 R4 Hb H8 Hb8 H8' H9 Hb9)
    all_goals (first | exact one_a H10.out Hb10.out | (refine one_c ?_ H10.out Hb10.out (by omega); exact Hid.out (by assumption)))
  case rest =>
    obtain ⟨g9, n9, A9, l9, c9, rfl, hg9, i9, hb9⟩ := hcut
    have J6 := Lib.hid (I6.out.move hb9)
    have J8 := Lib.hid (I8.out.move hb9)
    have J4 := Lib.hid (R4.out.move hb9)
    have Jb := Lib.hid (Hb.out.trans (hb9.mono Hb.out.size))
    have J9 := Lib.hid i9
    clear I5 I6 I7 I8 R4 Hb i9 hb9 a0 a1 b0 b1 d0 d1 e0 e1
    have a0 := J9.out.c0
    have a1 := J9.out.c1
    have b0 := J6.out.c0
    have b1 := J6.out.c1
    have d0 := J8.out.c0
    have d1 := J8.out.c1
    have n49 : g4 ≠ g9 := by omega
    go_wp2_with fail
    refine wp_region_last (S := fun w' => w'.cell? ⟨g9, 0, none⟩ = some (.bool n9) ∧ w'.cell? ⟨g9, 1, none⟩ = some (.slice A9 l9 c9) ∧ w'.cell? ⟨g6, 0, none⟩ = some (.bool false) ∧ w'.cell? ⟨g6, 1, none⟩ = some (.slice B m d) ∧ w'.cell? ⟨g8, 0, none⟩ = some (.bool false) ∧ w'.cell? ⟨g8, 1, none⟩ = some (.slice B' m' d')) (by kernel_rfl) (by kernel_rfl) (by (try dsimp only); go_keep) (fun hHeld => ?_)
    simp only [List.pop_toArray, List.dropLast]
    (refine take_at (i := 0) (oi := _) (v := ?_) rfl rfl (by kernel_rfl) (by kernel_rfl) (by kernel_rfl) (fun _ _ _ h => h) (Or.inl ⟨by rfl, ?_⟩) (by assumption) ?_; rotate_left; (focus (intro w hSw; (try dsimp only at hSw); go_simp; (try with_reducible rfl))); (simp only [put_lit, List.set]))
    (refine take_at (i := 1) (oi := _) (v := ?_) rfl rfl (by kernel_rfl) (by kernel_rfl) (by kernel_rfl) (fun _ _ _ h => h) (Or.inl ⟨by rfl, ?_⟩) (by assumption) ?_; rotate_left; (focus (intro w hSw; (try dsimp only at hSw); go_simp; (try with_reducible rfl))); (simp only [put_lit, List.set]))
    (refine take_at (i := 2) (oi := _) (v := ?_) rfl rfl (by kernel_rfl) (by kernel_rfl) (by kernel_rfl) (fun _ _ _ h => h) (Or.inl ⟨by rfl, ?_⟩) (by assumption) ?_; rotate_left; (focus (intro w hSw; (try dsimp only at hSw); go_simp; (try with_reducible rfl))); (simp only [put_lit, List.set]))
    refine wpAnyH_ready (rs := [3]) (by kernel_rfl) (by simp) ?_
    refine AllReadyH.cons rfl (fun K hK => ?_) AllReadyH.nil; go_simp
    refine (imul_any _ _ _ _ _ _ _ _ _ _ _ ?_ ?_ fq.sm fq'.sm (fq.mulok _)).mono ?_
    · exact J6.out.hz.at_.below (by (repeat (first | exact Below.refl _ _ | refine Below.drew ?_ | refine Below.alloc ?_ (by first | (simp; done) | (simp; omega) | omega) _ | refine Below.setCell ?_ (by first | (simp; done) | (simp; omega) | omega) _)))
    · exact J8.out.hz.at_.below (by (repeat (first | exact Below.refl _ _ | refine Below.drew ?_ | refine Below.alloc ?_ (by first | (simp; done) | (simp; omega) | omega) _ | refine Below.setCell ?_ (by first | (simp; done) | (simp; omega) | omega) _)))
    rintro e w10 ⟨n10, A10, l10, c10, rfl, h10, hb10⟩
    obtain ⟨hcx, hfx⟩ := bcellS hb10
    replace J9 := Lib.hid (J9.out.move (Below.trans (by (repeat (first | exact Below.refl _ _ | refine Below.drew ?_ | refine Below.alloc ?_ (by first | (simp; done) | (simp; omega) | omega) _ | refine Below.setCell ?_ (by first | (simp; done) | (simp; omega) | omega) _))) (hb10.mono (by simp <;> omega))))
    replace J4 := Lib.hid (J4.out.move (Below.trans (by (repeat (first | exact Below.refl _ _ | refine Below.drew ?_ | refine Below.alloc ?_ (by first | (simp; done) | (simp; omega) | omega) _ | refine Below.setCell ?_ (by first | (simp; done) | (simp; omega) | omega) _))) (hb10.mono (by simp <;> omega))))
    replace Jb := Lib.hid (Jb.out.trans ((Below.trans (by (repeat (first | exact Below.refl _ _ | refine Below.drew ?_ | refine Below.alloc ?_ (by first | (simp; done) | (simp; omega) | omega) _ | refine Below.setCell ?_ (by first | (simp; done) | (simp; omega) | omega) _))) (hb10.mono (by simp <;> omega))).mono Jb.out.size))
    have H10 := Lib.hid h10
    refine hK.out _ _ ?_ (fun _ => ?_)
    · ((try dsimp only); repeat' apply And.intro) <;> (rw [hcx _ (by go_simp)]; go_simp)
    clear hHeld hK K hcx hfx; rename_i hHeld
    clear h10 hb10
    refine wpAnyH_ready (rs := [4]) (by kernel_rfl) (by simp) ?_
    refine AllReadyH.cons rfl (fun K hK => ?_) AllReadyH.nil; go_simp
    refine (ishl_any _ _ _ _ _ 1 _ (H10.out.at_.below (by (repeat (first | exact Below.refl _ _ | refine Below.drew ?_ | refine Below.alloc ?_ (by first | (simp; done) | (simp; omega) | omega) _ | refine Below.setCell ?_ (by first | (simp; done) | (simp; omega) | omega) _)))) sqq (by omega)).mono ?_
    rintro e w11 ⟨n11, A11, l11, c11, rfl, h11, hb11⟩
    obtain ⟨hcx, hfx⟩ := bcellS hb11
    have e11 : (q : Int) * (q' : Int) * 2 ^ 1 = (DD : Int) := by rw [HDD.out, Int.natCast_mul, Int.natCast_mul]; rfl
    rw [e11] at h11
    replace J9 := Lib.hid (J9.out.move (Below.trans (by (repeat (first | exact Below.refl _ _ | refine Below.drew ?_ | refine Below.alloc ?_ (by first | (simp; done) | (simp; omega) | omega) _ | refine Below.setCell ?_ (by first | (simp; done) | (simp; omega) | omega) _))) (hb11.mono (by simp <;> omega))))
    replace J4 := Lib.hid (J4.out.move (Below.trans (by (repeat (first | exact Below.refl _ _ | refine Below.drew ?_ | refine Below.alloc ?_ (by first | (simp; done) | (simp; omega) | omega) _ | refine Below.setCell ?_ (by first | (simp; done) | (simp; omega) | omega) _))) (hb11.mono (by simp <;> omega))))
    replace Jb := Lib.hid (Jb.out.trans ((Below.trans (by (repeat (first | exact Below.refl _ _ | refine Below.drew ?_ | refine Below.alloc ?_ (by first | (simp; done) | (simp; omega) | omega) _ | refine Below.setCell ?_ (by first | (simp; done) | (simp; omega) | omega) _))) (hb11.mono (by simp <;> omega))).mono Jb.out.size))
    have H11 := Lib.hid h11
    refine hK.out _ _ ?_ (fun _ => ?_)
    · ((try dsimp only); repeat' apply And.intro) <;> (rw [hcx _ (by go_simp)]; go_simp)
    clear hHeld hK K hcx hfx; rename_i hHeld
    clear h11 hb11 e11
    refine wpAnyH_ready (rs := [5]) (by kernel_rfl) (by simp) ?_
    refine AllReadyH.cons rfl (fun K hK => ?_) AllReadyH.nil; go_simp
    refine (reduce_all _ _ _ _ _ _ _ _ _ _ _ (J9.out.hz.below (by (repeat (first | exact Below.refl _ _ | refine Below.drew ?_ | refine Below.alloc ?_ (by first | (simp; done) | (simp; omega) | omega) _ | refine Below.setCell ?_ (by first | (simp; done) | (simp; omega) | omega) _)))) (H11.out.below (by (repeat (first | exact Below.refl _ _ | refine Below.drew ?_ | refine Below.alloc ?_ (by first | (simp; done) | (simp; omega) | omega) _ | refine Below.setCell ?_ (by first | (simp; done) | (simp; omega) | omega) _)))) sS sD hD0).mono ?_
    rintro e w12 ⟨⟨n12, A12, l12, c12, B12, m12, d12, rfl, h12, k12⟩, hb12⟩
    obtain ⟨hcx, hfx⟩ := bcellS hb12
    have j4 := J4.out.move (Below.trans (by (repeat (first | exact Below.refl _ _ | refine Below.drew ?_ | refine Below.alloc ?_ (by first | (simp; done) | (simp; omega) | omega) _ | refine Below.setCell ?_ (by first | (simp; done) | (simp; omega) | omega) _))) (hb12.mono (by simp <;> omega)))
    have Jb2 := Lib.hid (Jb.out.trans ((Below.trans (by (repeat (first | exact Below.refl _ _ | refine Below.drew ?_ | refine Below.alloc ?_ (by first | (simp; done) | (simp; omega) | omega) _ | refine Below.setCell ?_ (by first | (simp; done) | (simp; omega) | omega) _))) (hb12.mono (by simp <;> omega))).mono Jb.out.size))
    refine hK.out _ _ ?_ (fun _ => ?_)
    · ((try dsimp only); repeat' apply And.intro) <;> (rw [hcx _ (by go_simp)]; go_simp)
    clear hHeld hK K hcx hfx; rename_i hHeld
    refine wpAnyH_done (by kernel_rfl) (lastQ_list rfl ?_) _
    have HP := Lib.hid (j4.put h12 k12)
    have r0 := j4.c0
    have r1 := j4.c1
    have r2 := j4.c2
    have r3 := j4.f0
    have r4 := j4.f1
    have r5 := j4.f2
    clear hHeld j4 h12 k12 hb12 a0 a1 b0 b1 d0 d1
    go_wp2
    refine bodyPost_ret (v := .agg #[.bool n12, .slice A12 l12 c12, .slice B12 m12 d12]) (by simp [results, Tryz.results31, go_sem, r0, r1, r2]) rfl ⟨⟨_, _, _, _, _, _, _, rfl, HP.out.hz, HP.out.hq⟩, ?_⟩
    exact ((Jb2.out.setCell (p := ⟨g4, 0, none⟩) (by simp; omega) _).setCell (p := ⟨g4, 1, none⟩) (by simp; omega) _).setCell (p := ⟨g4, 2, none⟩) (by simp; omega) _
end Go.Proofs.YtdihefmjfnlpcaaGreat
