/- The walks of package rational, second part: Cmp, From, Of. -/
import Derived.Test.YtfpliceenjbclaaRatA
import Derived.Test.YtfpliceenjbclaaSft
namespace Go.Proofs.Ytfpliceenjbclaa
open Go.RowKit

set_option maxRecDepth 100000 in
set_option maxHeartbeats 4000000 in
theorem rcmp_any (n : Bool) (A : Option Addr) (l c : Nat) (B : Option Addr) (m d q : Nat) (z : Int) (n' : Bool) (A' : Option Addr) (l' c' : Nat) (B' : Option Addr) (m' d' q' : Nat) (z' : Int) (w : World)
    (hz : IntAt w n A l c z) (hq : NatAt w B m d q) (hz' : IntAt w n' A' l' c' z') (hq' : NatAt w B' m' d' q') (h0 : q ≠ 0) (h0' : q' ≠ 0) (fz : Fit z) (fq : Fit (q : Int)) (fz' : Fit z') (fq' : Fit (q' : Int)) :
    Calls Try.prog 40 #[.agg #[.bool n, .slice A l c, .slice B m d], .agg #[.bool n', .slice A' l' c', .slice B' m' d']] w fun e w' => e = .returned (.int .i64 (cmpz (z * (q' : Int)) (z' * (q : Int)))) ∧ Below w.heap.size w w' := by
  have hb0 : Below w.heap.size w ((w.alloc (rbox n A l c B m d)).alloc (rbox n' A' l' c' B' m' d')) := below_two w _ _ (Nat.le_refl _)
  have hz1 := hz.below hb0
  have hq1 := hq.below hb0
  have hz1' := hz'.below hb0
  have hq1' := hq'.below hb0
  have sq : Sm q := by have := fq.sm; unfold SmI at this; rwa [Int.natAbs_natCast] at this
  have sq' : Sm q' := by have := fq'.sm; unfold SmI at this; rwa [Int.natAbs_natCast] at this
  have Hb0 := Lib.hid hb0
  clear hz hq hz' hq' hb0
  go_enter Try.func40, Try.ntmps40
  go_wp2_with fail
  refine (parts_any _ _ _ _ _ _ _ _ _ hq1 sq h0).mono ?_
  rintro e w1 ⟨rfl, hb1⟩
  obtain ⟨hcx, hfx⟩ := bcellS hb1
  have b0 : w1.cell? ⟨w.heap.size + 1, 0, none⟩ = some (.bool n') := (hcx _ (by go_simp)).trans (by go_simp)
  have b1 : w1.cell? ⟨w.heap.size + 1, 1, none⟩ = some (.slice A' l' c') := (hcx _ (by go_simp)).trans (by go_simp)
  have b2 : w1.cell? ⟨w.heap.size + 1, 2, none⟩ = some (.slice B' m' d') := (hcx _ (by go_simp)).trans (by go_simp)
  have hsz := hb1.size
  simp only [World.size_alloc] at hsz
  have hlt : w.heap.size + 1 < w1.heap.size := by omega
  have hb2 : Below w1.heap.size w1 ((w1.alloc (ibox n A l c)).alloc (ibox false B m d)) := below_two w1 _ _ (Nat.le_refl _)
  obtain ⟨hcy, hfy⟩ := bcellS hb2
  have g0 := (hcy _ (by rw [b0]; rfl)).trans b0
  have g1 := (hcy _ (by rw [b1]; rfl)).trans b1
  have g2 := (hcy _ (by rw [b2]; rfl)).trans b2
  have hz2 := (hz1.below hb1).below hb2
  have hq2 := (hq1.below hb1).below hb2
  have hz2' := (hz1'.below hb1).below hb2
  have hq2' := (hq1'.below hb1).below hb2
  have Hb2 := Lib.hid ((Hb0.out.trans (hb1.mono Hb0.out.size)).trans (hb2.mono (Hb0.out.trans (hb1.mono Hb0.out.size)).size))
  clear hz1 hq1 hz1' hq1' hb1 hb2 hcx hfx hcy hfy b0 b1 b2
  go_wp2_with fail
  refine (parts_any _ _ _ _ _ _ _ _ _ hq2' sq' h0').mono ?_
  rintro e w2 ⟨rfl, hb3⟩
  obtain ⟨hcx, hfx⟩ := bcellS hb3
  have d0 : w2.cell? ⟨w1.heap.size, 0, none⟩ = some (.bool n) := (hcx _ (by go_simp)).trans (by go_simp)
  have d1 : w2.cell? ⟨w1.heap.size, 1, none⟩ = some (.slice A l c) := (hcx _ (by go_simp)).trans (by go_simp)
  have d2 : w2.cell? ⟨w1.heap.size + 1, 0, none⟩ = some (.bool false) := (hcx _ (by go_simp)).trans (by go_simp)
  have d3 : w2.cell? ⟨w1.heap.size + 1, 1, none⟩ = some (.slice B m d) := (hcx _ (by go_simp)).trans (by go_simp)
  have hsz2 := hb3.size
  simp only [World.size_alloc] at hsz2
  have hlt2 : w1.heap.size < w2.heap.size := by omega
  have hlt3 : w1.heap.size + 1 < w2.heap.size := by omega
  have hb4 : Below w2.heap.size w2 ((w2.alloc (ibox n' A' l' c')).alloc (ibox false B' m' d')) := below_two w2 _ _ (Nat.le_refl _)
  obtain ⟨hcy, hfy⟩ := bcellS hb4
  have k0 := (hcy _ (by rw [d0]; rfl)).trans d0
  have k1 := (hcy _ (by rw [d1]; rfl)).trans d1
  have k2 := (hcy _ (by rw [d2]; rfl)).trans d2
  have k3 := (hcy _ (by rw [d3]; rfl)).trans d3
  have Hz := Lib.hid ((hz2.below hb3).below hb4)
  have Hq := Lib.hid ((hq2.below hb3).below hb4).int
  have Hz' := Lib.hid ((hz2'.below hb3).below hb4)
  have Hq' := Lib.hid ((hq2'.below hb3).below hb4).int
  have Hb4 := Lib.hid ((Hb2.out.trans (hb3.mono Hb2.out.size)).trans (hb4.mono (Hb2.out.trans (hb3.mono Hb2.out.size)).size))
  have m1 := fz.mulok (q' : Int)
  have m2 := fz'.mulok (q : Int)
  have t1 := fz.sm2 fq'
  have t2 := fz'.sm2 fq
  have szz := fz.sm
  have szz' := fz'.sm
  have sqq := fq.sm
  have sqq' := fq'.sm
  clear hz2 hq2 hz2' hq2' hb3 hb4 hcx hfx hcy hfy g0 g1 g2 d0 d1 d2 d3 Hb0 Hb2
  go_wp2_with fail
  go_region_held3 (fun w' => w'.cell? ⟨w1.heap.size, 0, none⟩ = some (.bool n) ∧ w'.cell? ⟨w1.heap.size, 1, none⟩ = some (.slice A l c) ∧ w'.cell? ⟨w1.heap.size + 1, 0, none⟩ = some (.bool false) ∧ w'.cell? ⟨w1.heap.size + 1, 1, none⟩ = some (.slice B m d) ∧ w'.cell? ⟨w2.heap.size, 0, none⟩ = some (.bool n') ∧ w'.cell? ⟨w2.heap.size, 1, none⟩ = some (.slice A' l' c') ∧ w'.cell? ⟨w2.heap.size + 1, 0, none⟩ = some (.bool false) ∧ w'.cell? ⟨w2.heap.size + 1, 1, none⟩ = some (.slice B' m' d')) (go_keep) (first
      | (go_at_call_of 54 (Value.slice A l c); go_must (refine (imul_any _ _ _ _ _ _ _ _ _ _ _ ?_ ?_ szz sqq' m1).mono ?_; (exact Hz.out.below (by (repeat (first | exact Below.refl _ _ | refine Below.drew ?_ | refine Below.alloc ?_ (by first | (simp; done) | (simp; omega) | omega) _ | refine Below.setCell ?_ (by first | (simp; done) | (simp; omega) | omega) _)))); (exact Hq'.out.below (by (repeat (first | exact Below.refl _ _ | refine Below.drew ?_ | refine Below.alloc ?_ (by first | (simp; done) | (simp; omega) | omega) _ | refine Below.setCell ?_ (by first | (simp; done) | (simp; omega) | omega) _)))); rintro e w3 ⟨n3, A3, l3, c3, rfl, h3, hb3⟩; obtain ⟨hcx, hfx⟩ := bcellS hb3; have x0w3 : w3.cell? ⟨w1.heap.size, 0, none⟩ = some (.bool n) := (hcx _ (by go_simp)).trans (by go_simp); have x1w3 : w3.cell? ⟨w1.heap.size, 1, none⟩ = some (.slice A l c) := (hcx _ (by go_simp)).trans (by go_simp); have x2w3 : w3.cell? ⟨w1.heap.size + 1, 0, none⟩ = some (.bool false) := (hcx _ (by go_simp)).trans (by go_simp); have x3w3 : w3.cell? ⟨w1.heap.size + 1, 1, none⟩ = some (.slice B m d) := (hcx _ (by go_simp)).trans (by go_simp); have x4w3 : w3.cell? ⟨w2.heap.size, 0, none⟩ = some (.bool n') := (hcx _ (by go_simp)).trans (by go_simp); have x5w3 : w3.cell? ⟨w2.heap.size, 1, none⟩ = some (.slice A' l' c') := (hcx _ (by go_simp)).trans (by go_simp); have x6w3 : w3.cell? ⟨w2.heap.size + 1, 0, none⟩ = some (.bool false) := (hcx _ (by go_simp)).trans (by go_simp); have x7w3 : w3.cell? ⟨w2.heap.size + 1, 1, none⟩ = some (.slice B' m' d') := (hcx _ (by go_simp)).trans (by go_simp); clear hcx hfx; have HZ3 := Lib.hid (Hz'.out.below (Below.trans (by (repeat (first | exact Below.refl _ _ | refine Below.drew ?_ | refine Below.alloc ?_ (by first | (simp; done) | (simp; omega) | omega) _ | refine Below.setCell ?_ (by first | (simp; done) | (simp; omega) | omega) _))) (hb3.mono (by simp <;> omega)))); have HQ3 := Lib.hid (Hq.out.below (Below.trans (by (repeat (first | exact Below.refl _ _ | refine Below.drew ?_ | refine Below.alloc ?_ (by first | (simp; done) | (simp; omega) | omega) _ | refine Below.setCell ?_ (by first | (simp; done) | (simp; omega) | omega) _))) (hb3.mono (by simp <;> omega)))); have Hb5 := Lib.hid (Hb4.out.trans ((Below.trans (by (repeat (first | exact Below.refl _ _ | refine Below.drew ?_ | refine Below.alloc ?_ (by first | (simp; done) | (simp; omega) | omega) _ | refine Below.setCell ?_ (by first | (simp; done) | (simp; omega) | omega) _))) (hb3.mono (by simp <;> omega))).mono Hb4.out.size))))
      | (go_at_call_of 54 (Value.slice A' l' c'); go_must (refine (imul_any _ _ _ _ _ _ _ _ _ _ _ ?_ ?_ szz' sqq m2).mono ?_; (exact HZ3.out.below (by (repeat (first | exact Below.refl _ _ | refine Below.drew ?_ | refine Below.alloc ?_ (by first | (simp; done) | (simp; omega) | omega) _ | refine Below.setCell ?_ (by first | (simp; done) | (simp; omega) | omega) _)))); (exact HQ3.out.below (by (repeat (first | exact Below.refl _ _ | refine Below.drew ?_ | refine Below.alloc ?_ (by first | (simp; done) | (simp; omega) | omega) _ | refine Below.setCell ?_ (by first | (simp; done) | (simp; omega) | omega) _)))); rintro e w4 ⟨n4, A4, l4, c4, rfl, h4, hb4⟩; obtain ⟨hcx, hfx⟩ := bcellS hb4; have x0w4 : w4.cell? ⟨w1.heap.size, 0, none⟩ = some (.bool n) := (hcx _ (by go_simp)).trans (by go_simp); have x1w4 : w4.cell? ⟨w1.heap.size, 1, none⟩ = some (.slice A l c) := (hcx _ (by go_simp)).trans (by go_simp); have x2w4 : w4.cell? ⟨w1.heap.size + 1, 0, none⟩ = some (.bool false) := (hcx _ (by go_simp)).trans (by go_simp); have x3w4 : w4.cell? ⟨w1.heap.size + 1, 1, none⟩ = some (.slice B m d) := (hcx _ (by go_simp)).trans (by go_simp); have x4w4 : w4.cell? ⟨w2.heap.size, 0, none⟩ = some (.bool n') := (hcx _ (by go_simp)).trans (by go_simp); have x5w4 : w4.cell? ⟨w2.heap.size, 1, none⟩ = some (.slice A' l' c') := (hcx _ (by go_simp)).trans (by go_simp); have x6w4 : w4.cell? ⟨w2.heap.size + 1, 0, none⟩ = some (.bool false) := (hcx _ (by go_simp)).trans (by go_simp); have x7w4 : w4.cell? ⟨w2.heap.size + 1, 1, none⟩ = some (.slice B' m' d') := (hcx _ (by go_simp)).trans (by go_simp); clear hcx hfx; have H34 := Lib.hid (h3.below (Below.trans (by (repeat (first | exact Below.refl _ _ | refine Below.drew ?_ | refine Below.alloc ?_ (by first | (simp; done) | (simp; omega) | omega) _ | refine Below.setCell ?_ (by first | (simp; done) | (simp; omega) | omega) _))) (hb4.mono (by simp <;> omega)))); have Hb6 := Lib.hid (Hb5.out.trans ((Below.trans (by (repeat (first | exact Below.refl _ _ | refine Below.drew ?_ | refine Below.alloc ?_ (by first | (simp; done) | (simp; omega) | omega) _ | refine Below.setCell ?_ (by first | (simp; done) | (simp; omega) | omega) _))) (hb4.mono (by simp <;> omega))).mono Hb5.out.size))))
      | (go_at_call 78; go_must (refine (icmp_any _ _ _ _ _ _ _ _ _ _ _ ?_ ?_ t1 t2).mono ?_; (exact H34.out.at_.below (by (repeat (first | exact Below.refl _ _ | refine Below.drew ?_ | refine Below.alloc ?_ (by first | (simp; done) | (simp; omega) | omega) _ | refine Below.setCell ?_ (by first | (simp; done) | (simp; omega) | omega) _)))); (exact h4.at_.below (by (repeat (first | exact Below.refl _ _ | refine Below.drew ?_ | refine Below.alloc ?_ (by first | (simp; done) | (simp; omega) | omega) _ | refine Below.setCell ?_ (by first | (simp; done) | (simp; omega) | omega) _)))); rintro e w5 ⟨rfl, hb5⟩; obtain ⟨hcx, hfx⟩ := bcellS hb5; have x0w5 : w5.cell? ⟨w1.heap.size, 0, none⟩ = some (.bool n) := (hcx _ (by go_simp)).trans (by go_simp); have x1w5 : w5.cell? ⟨w1.heap.size, 1, none⟩ = some (.slice A l c) := (hcx _ (by go_simp)).trans (by go_simp); have x2w5 : w5.cell? ⟨w1.heap.size + 1, 0, none⟩ = some (.bool false) := (hcx _ (by go_simp)).trans (by go_simp); have x3w5 : w5.cell? ⟨w1.heap.size + 1, 1, none⟩ = some (.slice B m d) := (hcx _ (by go_simp)).trans (by go_simp); have x4w5 : w5.cell? ⟨w2.heap.size, 0, none⟩ = some (.bool n') := (hcx _ (by go_simp)).trans (by go_simp); have x5w5 : w5.cell? ⟨w2.heap.size, 1, none⟩ = some (.slice A' l' c') := (hcx _ (by go_simp)).trans (by go_simp); have x6w5 : w5.cell? ⟨w2.heap.size + 1, 0, none⟩ = some (.bool false) := (hcx _ (by go_simp)).trans (by go_simp); have x7w5 : w5.cell? ⟨w2.heap.size + 1, 1, none⟩ = some (.slice B' m' d') := (hcx _ (by go_simp)).trans (by go_simp); clear hcx hfx; have Hb7 := Lib.hid (Hb6.out.trans ((Below.trans (by (repeat (first | exact Below.refl _ _ | refine Below.drew ?_ | refine Below.alloc ?_ (by first | (simp; done) | (simp; omega) | omega) _ | refine Below.setCell ?_ (by first | (simp; done) | (simp; omega) | omega) _))) (hb5.mono (by simp <;> omega))).mono Hb6.out.size)))))
  all_goals go_wp2
  all_goals go_ret
  all_goals exact ⟨rfl, Hb7.out⟩
end Go.Proofs.Ytfpliceenjbclaa
