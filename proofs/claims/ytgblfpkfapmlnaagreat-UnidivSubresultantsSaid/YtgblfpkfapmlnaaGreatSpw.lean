/- The walks of cylinderref02.Neg, cylinderref03.Pow and cylinderref09.power. -/
import Derived.Test.YtgblfpkfapmlnaaGreatBuc
import Derived.Test.YtgblfpkfapmlnaaGreatBto
namespace Go.Proofs.YtgblfpkfapmlnaaGreat
open Go Go.RowKit

set_option maxRecDepth 100000 in
set_option maxHeartbeats 1000000 in
theorem zminus_any (s : Int) (A : Option Addr) (la ca : Nat) (z : Int) (w : World) (hz : ZAt w s A la ca z) :
    Calls Tryz.prog 34 #[.agg #[.int .i64 s, .slice A la ca]] w (ZRet w (-z)) := by
  have hb0 : Below w.heap.size w ((w.alloc (zbox s A la ca)).alloc (zbox 0 none 0 0)) := below_two w _ _ (Nat.le_refl _)
  have hs : IntKind.i64.wrap (-s) = -s := IntWalk.i64_in _ (by have := hz.sgb; omega)
  have hn : -s = sg (-z) := by
    rw [hz.sign]
    unfold sg
    split <;> split <;> omega
  have h2 : ZAt ((w.alloc (zbox s A la ca)).alloc (zbox (-s) A la ca)) (-s) A la ca (-z) := by
    have h1 := hz.below (below_two w (zbox s A la ca) (zbox (-s) A la ca) (Nat.le_refl _))
    exact ⟨hn, by rw [Int.natAbs_neg]; exact h1.bits, h1.typ⟩
  have H2 := Lib.hid h2
  clear hz hn h2 hb0
  go_enter Tryz.func34, Tryz.ntmps34
  go_wp2
  exact bodyPost_ret (v := .agg #[.int .i64 (-s), .slice A la ca]) (by simp [results, Tryz.results34, go_sem]) rfl ⟨_, _, _, _, rfl, H2.out, below_two w _ _ (Nat.le_refl _)⟩

set_option maxRecDepth 100000 in
set_option maxHeartbeats 4000000 in
theorem zpow_any (s : Int) (A : Option Addr) (la ca : Nat) (z : Int) (n : Nat) (w : World) (hz : ZAt w s A la ca z) (hn : n ≤ 20) {E : Nat} (hE : z.natAbs ≤ 2 ^ E) (hE1 : E ≤ 5000) :
    Calls Tryz.prog 71 #[.agg #[.int .i64 s, .slice A la ca], .int .i64 (n : Int)] w (ZRet w (z ^ n)) := by
  have hpw : ∀ k, k ≤ 20 → bln (z ^ k).natAbs ≤ 400000 := fun k hk => by
    have h1 : (z ^ k).natAbs ≤ 2 ^ (E * k) := by rw [Int.natAbs_pow, Nat.pow_mul]; exact Nat.pow_le_pow_left hE k
    have h2 := bln_pow h1
    have h3 : E * k ≤ 5000 * 20 := Nat.mul_le_mul hE1 hk
    omega
  have Hpw := Lib.hid hpw
  have hla : la ≤ 400000 := by have h1 := hz.len; have h2 := hpw 1 (by omega); rw [Int.pow_one] at h2; omega
  have hb0 : Below w.heap.size w ((w.alloc (zbox s A la ca)).alloc (zbox 0 none 0 0)) := below_two w _ _ (Nat.le_refl _)
  obtain ⟨W, hW⟩ : ∃ W, W = ((w.alloc (zbox s A la ca)).alloc (zbox 0 none 0 0)) := ⟨_, rfl⟩
  have a0 : W.cell? ⟨w.heap.size, 0, none⟩ = some (.int .i64 s) := by rw [hW]; go_simp
  have a1 : W.cell? ⟨w.heap.size, 1, none⟩ = some (.slice A la ca) := by rw [hW]; go_simp
  have hR0 : ZBox W (w.heap.size + 1) 0 none 0 0 0 := by
    have h := ZBox.nil (w.alloc (zbox s A la ca))
    rw [World.size_alloc] at h
    rw [hW]
    exact h
  have hWs : W.heap.size = w.heap.size + 2 := by rw [hW]; simp
  have H0 := Lib.hid (show ZAt W s A la ca z by rw [hW]; exact hz.below hb0)
  have Hb0 := Lib.hid (show Below w.heap.size w W by rw [hW]; exact hb0)
  clear hpw hb0 hz hE hE1
  go_enter Tryz.func71, Tryz.ntmps71
  go_wp2_with fail
  rw [← hW]
  clear hW
  refine (zsmall_any 1 _ (by decide)).mono ?_
  rintro e w1 ⟨s1, A1, l1, c1, rfl, h1, hb1⟩
  have hs1 := hb1.size
  obtain ⟨hc, hf⟩ := bcell hb1
  have a0 := (hb1.cell (p := ⟨w.heap.size, 0, none⟩) (by simp; omega)).trans a0
  have a1 := (hb1.cell (p := ⟨w.heap.size, 1, none⟩) (by simp; omega)).trans a1
  have R1 := Lib.hid (hR0.move hb1)
  have H1 := Lib.hid h1
  have HZ := Lib.hid (H0.out.below hb1)
  have Hb1 := Lib.hid (Hb0.out.trans (hb1.mono Hb0.out.size))
  clear h1 hb1 hc hf H0 Hb0 hR0
  go_wp2
  obtain ⟨gp, hgp⟩ : ∃ gp, gp = w1.heap.size := ⟨_, rfl⟩
  have hgw : w.heap.size + 2 ≤ gp := by omega
  rw [← hgp]
  have Hgp := Lib.hid hgp
  have hgs : gp ≤ w1.heap.size ∧ w1.heap.size ≤ gp := by omega
  clear hgp
  go_loopw [6] (fun s6 wr => ∃ (k : Nat) (s2 : Int) (A2 : Option Addr) (l2 c2 : Nat), k ≤ n ∧ s6 = .int .i64 (k : Int) ∧ ZBox wr gp s2 A2 l2 c2 (z ^ k) ∧ Below gp w1 wr) (fun s6 _ => n - (intOf s6).toNat)
  case atStart => exact ⟨0, _, _, _, _, Nat.zero_le _, rfl, by rw [Int.pow_zero, Hgp.out]; exact ZBox.make H1.out, by rw [Hgp.out]; exact (Below.refl _ _).alloc (Nat.le_refl _) _⟩
  case round =>
    obtain ⟨k, s2, A2, l2, c2, hk, rfl, hbx, hbw⟩ := hrel
    have p0 := hbx.c0
    have p1 := hbx.c1
    have q0 := hbx.f0
    have q1 := hbx.f1
    have hgl := hbx.lt
    have e0 := (hbw.cell (p := ⟨w.heap.size, 0, none⟩) (by simp; omega)).trans a0
    have e1 := (hbw.cell (p := ⟨w.heap.size, 1, none⟩) (by simp; omega)).trans a1
    have hR := R1.out.move (w' := wr) (by rw [← Hgp.out]; exact hbw)
    have f0 := hR.c0
    have f1 := hR.c1
    have f2 := hR.f0
    have f3 := hR.f1
    have f4 := hR.lt
    have L2 : l2 ≤ 400000 := by have := hbx.hz.len; have := Hpw.out k (by omega); omega
    have HB := Lib.hid hbx
    have HZ2 := Lib.hid (HZ.out.below (by rw [← Hgp.out]; exact hbw))
    have Hbw := Lib.hid hbw
    clear hbx hbw hR
    by_cases hlt : k < n
    · have t1 : (k : Int) < (n : Int) := by omega
      have Hnx := Lib.hid (show z ^ k * z = z ^ (k + 1) from (Int.pow_succ _ _).symm)
      go_wp2_with fail
      refine (zmul_any _ _ _ _ (z ^ k) _ _ _ _ z _ HB.out.hz HZ2.out L2 hla).mono ?_
      rintro e w3 ⟨s3, A3, l3, c3, rfl, h3, hb3⟩
      rw [Hnx.out] at h3
      have hB3 := HB.out.move hb3
      have p0 := hB3.c0
      have p1 := hB3.c1
      have q0 := hB3.f0
      have q1 := hB3.f1
      have hgl3 := hB3.lt
      have HB3 := Lib.hid (hB3.put h3)
      have Hb3 := Lib.hid (((Hbw.out.trans (hb3.mono (by omega))).setCell (p := ⟨gp, 0, none⟩) (Nat.le_refl _) (.int .i64 s3)).setCell (p := ⟨gp, 1, none⟩) (Nat.le_refl _) (.slice A3 l3 c3))
      clear h3 hb3 hB3 HB HZ2 e0 e1 f0 f1 f2 f3
      go_wp2
      go_roundw
      case rel => exact ⟨k + 1, _, _, _, _, by omega, by go_num, HB3.out, Hb3.out⟩
      case measure => simp [intOf]; omega
    · have hkM : k = n := by omega
      subst hkM
      have t1 : ¬ (k : Int) < (k : Int) := by omega
      have HE := Lib.hid (HB.out.hz.ret (g := w.heap.size + 1) (.int .i64 s2) (.slice A2 l2 c2) f0 f1)
      have Hb4 := Lib.hid (((Hb1.out.trans (Hbw.out.mono (by omega))).setCell (p := ⟨w.heap.size + 1, 0, none⟩) (Nat.le_succ _) (.int .i64 s2)).setCell (p := ⟨w.heap.size + 1, 1, none⟩) (Nat.le_succ _) (.slice A2 l2 c2))
      clear HB HZ2
      go_wp2
      exact bodyPost_ret (v := .agg #[.int .i64 s2, .slice A2 l2 c2]) (by simp [results, Tryz.results71, go_sem, f0, f1]) rfl ⟨_, _, _, _, rfl, HE.out, Hb4.out⟩

set_option maxRecDepth 100000 in
set_option maxHeartbeats 1000000 in
theorem zpower_any (s : Int) (A : Option Addr) (la ca : Nat) (z : Int) (n : Nat) (w : World) (hz : ZAt w s A la ca z) (hn : n ≤ 20) {E : Nat} (hE : z.natAbs ≤ 2 ^ E) (hE1 : E ≤ 5000) :
    Calls Tryz.prog 36 #[.agg #[.int .i64 s, .slice A la ca], .int .i64 (n : Int)] w (ZRet w (z ^ n)) := by
  have hb0 : Below w.heap.size w ((w.alloc (zbox s A la ca)).alloc (zbox 0 none 0 0)) := below_two w _ _ (Nat.le_refl _)
  have H0 := Lib.hid (hz.below hb0)
  have Hb0 := Lib.hid hb0
  clear hz hb0
  go_enter Tryz.func36, Tryz.ntmps36
  go_wp2_with fail
  refine (zpow_any _ _ _ _ z n _ H0.out hn hE hE1).mono ?_
  rintro e w2 ⟨s2, A2, l2, c2, rfl, h2, hb2⟩
  obtain ⟨hc, hf⟩ := bcell hb2
  have hsz := hb2.size
  simp only [World.size_alloc] at hsz
  have H2 := Lib.hid h2
  have Hb2 := Lib.hid (Hb0.out.trans (hb2.mono Hb0.out.size))
  have Hc := Lib.hid hc
  clear h2 hb2 Hb0 H0
  go_wp2
  refine bodyPost_ret (v := .agg #[.int .i64 s2, .slice A2 l2 c2]) (by simp [results, Tryz.results36, go_sem, hc]) rfl ⟨_, _, _, _, rfl, H2.out.ret _ _ (A0 := none) (l0 := 0) (c0 := 0) ?_ ?_, ?_⟩
  · rw [Hc.out _ _ (by simp)]; go_simp
  · rw [Hc.out _ _ (by simp)]; go_simp
  · exact (Hb2.out.setCell (Nat.le_succ _) _).setCell (Nat.le_succ _) _
end Go.Proofs.YtgblfpkfapmlnaaGreat
