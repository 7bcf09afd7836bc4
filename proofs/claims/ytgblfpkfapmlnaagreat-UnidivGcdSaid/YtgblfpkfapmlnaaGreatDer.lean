/- The walks of unipoly.Derivative and of division.Exact. -/
import Derived.Test.YtgblfpkfapmlnaaGreatIdP
import Derived.Test.YtgblfpkfapmlnaaGreatQuo
namespace Go.Proofs.YtgblfpkfapmlnaaGreat
open Go.RowKit

/-- the derivative -/
def pder (p : List Int) : List Int := (List.range (plen p - 1)).map fun k => p.getD (k + 1) 0 * ((k : Int) + 1)
theorem pder_length (p : List Int) : (pder p).length = plen p - 1 := by simp [pder]
theorem pder_get (p : List Int) {k : Nat} (h : k < plen p - 1) : (pder p).getD k 0 = p.getD (k + 1) 0 * ((k : Int) + 1) := by
  rw [List.getD_eq_getElem?_getD, pder, List.getElem?_map, List.getElem?_range h]; rfl

set_option maxHeartbeats 1000000 in
/-- the quotient of two integers of which the second divides the first -/
theorem iexact_any (na : Bool) (A : Option Addr) (la ca : Nat) (a : Int) (nb : Bool) (B : Option Addr) (lb cb : Nat) (b : Int) (w : World) (ha : IntAt w na A la ca a) (hb : IntAt w nb B lb cb b) (hsa : SmI a) (hsb : SmI b) (hb0 : b ≠ 0) (hd : a.tmod b = 0) :
    Calls Tryz.prog 42 #[.agg #[.bool na, .slice A la ca], .agg #[.bool nb, .slice B lb cb]] w fun e w' => ∃ n1 A1 l1 c1, e = .returned (.tuple #[.agg #[.bool n1, .slice A1 l1 c1], .int .i64 0]) ∧ IntN w' n1 A1 l1 c1 (a.tdiv b) ∧ Below w.heap.size w w' := by
  have hbx : Below w.heap.size w (((w.alloc (ibox na A la ca)).alloc (ibox nb B lb cb)).alloc (ibox false none 0 0)) := below_three w _ _ _ (Nat.le_refl _)
  have hA := ha.below hbx
  have hB := hb.below hbx
  have HX := Lib.hid (IBox.nil ((w.alloc (ibox na A la ca)).alloc (ibox nb B lb cb)))
  have Hbx := Lib.hid hbx
  have HD := Lib.hid hd
  clear hbx ha hb hd
  go_enter Tryz.func42, Tryz.ntmps42
  go_wp2_with fail
  refine (quo_all _ _ _ _ _ _ _ _ _ _ _ hA hB hsa hsb hb0).mono ?_
  rintro e w1 ⟨n1, A1, l1, c1, n2, A2, l2, c2, rfl, h1, h2, hb1⟩
  have HX1 := Lib.hid (HX.out.move hb1)
  have Hb1 := Lib.hid (Hbx.out.trans (hb1.mono Hbx.out.size))
  have hX := HX1.out
  simp only [World.size_alloc] at hX
  have HX2 := Lib.hid hX
  have hlx := hX.lt
  have H1 := Lib.hid h1
  have H2 := Lib.hid h2
  rw [HD.out] at h2
  have H20 := Lib.hid h2
  have hdz : decide (a.tmod b = 0) = true := decide_eq_true HD.out
  clear hX hA hB hb1 h1 h2 HX HX1 Hbx H2
  go_wp2_with fail
  refine (dzero_any _ _ _ _ _ _ (H20.out.at_.below (by (repeat (first | exact Below.refl _ _ | refine Below.drew ?_ | refine Below.alloc ?_ (by first | (simp; done) | (simp; omega) | omega) _ | refine Below.setCell ?_ (by first | (simp; done) | (simp; omega) | omega) _)))) SmI.zero).mono ?_
  rintro e w2 ⟨rfl, hb2⟩
  rw [show decide ((0 : Int) = 0) = true from rfl]
  obtain ⟨hcx, hfx⟩ := bcellS hb2
  have x0 : w2.cell? ⟨w1.heap.size, 0, none⟩ = some (.bool n1) := (hcx _ (by go_simp)).trans (by go_simp)
  have x1 : w2.cell? ⟨w1.heap.size, 1, none⟩ = some (.slice A1 l1 c1) := (hcx _ (by go_simp)).trans (by go_simp)
  have HX3 := HX2.out.move (Below.trans (by (repeat (first | exact Below.refl _ _ | refine Below.drew ?_ | refine Below.alloc ?_ (by first | (simp; done) | (simp; omega) | omega) _ | refine Below.setCell ?_ (by first | (simp; done) | (simp; omega) | omega) _))) (hb2.mono (by simp <;> omega)))
  have H3 := H1.out.below (Below.trans (by (repeat (first | exact Below.refl _ _ | refine Below.drew ?_ | refine Below.alloc ?_ (by first | (simp; done) | (simp; omega) | omega) _ | refine Below.setCell ?_ (by first | (simp; done) | (simp; omega) | omega) _))) (hb2.mono (by simp <;> omega)))
  have HP := Lib.hid (HX3.put H3)
  have Hb3 := Lib.hid (Hb1.out.trans ((Below.trans (by (repeat (first | exact Below.refl _ _ | refine Below.drew ?_ | refine Below.alloc ?_ (by first | (simp; done) | (simp; omega) | omega) _ | refine Below.setCell ?_ (by first | (simp; done) | (simp; omega) | omega) _))) (hb2.mono (by simp <;> omega))).mono Hb1.out.size))
  have y0 := HX3.c0
  have y1 := HX3.c1
  have y2 := HX3.f0
  have y3 := HX3.f1
  clear hb2 hcx hfx HX3 H3 HX2 H1 Hb1 H20
  go_wp2
  refine bodyPost_ret (v := .tuple #[.agg #[.bool n1, .slice A1 l1 c1], .int .i64 0]) (by simp [results, Tryz.results42, go_sem, y0, y1]) rfl ⟨_, _, _, _, rfl, HP.out.hz, (Hb3.out.setCell (p := ⟨w.heap.size + 1 + 1, 0, none⟩) (by first | (simp; done) | (simp; omega) | omega) _).setCell (p := ⟨w.heap.size + 1 + 1, 1, none⟩) (by first | (simp; done) | (simp; omega) | omega) _⟩
end Go.Proofs.YtgblfpkfapmlnaaGreat
