/- The walks of package integer, fourth part: Mul. -/
import Derived.Test.YtfpliceenjbclaaIntC
import Derived.Test.YtfpliceenjbclaaNatS
namespace Go.Proofs.Ytfpliceenjbclaa
open Go.RowKit

theorem mul_sgn (na nb : Bool) {a b : Int} (ha : a = sgn na a.natAbs) (hb : b = sgn nb b.natAbs) : sgn (!(na == nb)) (a.natAbs * b.natAbs) = a * b := by
  have h1 : ((a.natAbs * b.natAbs : Nat) : Int) = (a.natAbs : Int) * (b.natAbs : Int) := Int.natCast_mul _ _
  generalize a.natAbs = x at *
  generalize b.natAbs = y at *
  subst ha hb
  cases na <;> cases nb <;> simp [sgn, h1, Int.neg_mul, Int.mul_neg]

set_option maxHeartbeats 1000000 in
theorem imul_any (na : Bool) (A : Option Addr) (la ca : Nat) (a : Int) (nb : Bool) (B : Option Addr) (lb cb : Nat) (b : Int) (w : World) (ha : IntAt w na A la ca a) (hb : IntAt w nb B lb cb b) (hsa : SmI a) (hsb : SmI b) (hk : MulOK a.natAbs b.natAbs) :
    Calls Try.prog 54 #[.agg #[.bool na, .slice A la ca], .agg #[.bool nb, .slice B lb cb]] w fun e w' => ∃ neg' A' len' cap', e = .returned (.agg #[.bool neg', .slice A' len' cap']) ∧ IntN w' neg' A' len' cap' (a * b) ∧ Below w.heap.size w w' := by
  have hb0 : Below w.heap.size w (((w.alloc (ibox na A la ca)).alloc (ibox nb B lb cb)).alloc (ibox false none 0 0)) := below_three w _ _ _ (Nat.le_refl _)
  have hA1 := (ha.nat.below hb0).below (Below.refl _ _).drew
  have hB1 := (hb.nat.below hb0).below (Below.refl _ _).drew
  have hsum := Lib.hid (mul_sgn na nb ha.sign hb.sign)
  have Hb0 := Lib.hid hb0
  clear ha hb hb0
  go_enter Try.func54, Try.ntmps54
  go_wp2_with fail
  go_region_held3 (fun w' => w'.cell? ⟨w.heap.size, 0, none⟩ = some (.bool na) ∧ w'.cell? ⟨w.heap.size, 1, none⟩ = some (.slice A la ca) ∧ w'.cell? ⟨w.heap.size + 1, 0, none⟩ = some (.bool nb) ∧ w'.cell? ⟨w.heap.size + 1, 1, none⟩ = some (.slice B lb cb)) (refine ⟨?_, ?_, ?_, ?_⟩ <;> go_simp) (first
      | (go_at_call 120; go_must (refine (mul_any _ _ _ _ _ _ _ _ _ hA1 hB1 hsa hsb hk).mono ?_; rintro e w1 ⟨A1, l1, c1, rfl, h1, hb1⟩; obtain ⟨hc, hf⟩ := bcell hb1; have hsz := hb1.size; simp only [World.size_alloc, World.size_drew] at hsz))
      | (go_at_call 119; go_must (refine (signed_any _ _ _ _ _ _ h1).mono ?_; rintro e w2 ⟨n2, rfl, h2, hb2⟩; clear hc hf; have hb3 := hb1.trans (hb2.mono hb1.size); obtain ⟨hc, hf⟩ := bcell hb3; have hsz2 := hb2.size)))
  have H2 := Lib.hid h2
  have Hb3 := Lib.hid hb3
  have Hc := Lib.hid hc
  rw [hsum.out] at H2
  clear h2 hb3 hb1 hb2 h1 hA1 hB1
  go_wp2
  refine bodyPost_ret (v := .agg #[.bool n2, .slice A1 l1 c1]) (by simp [results, Try.results54, go_sem, hc]) rfl ⟨_, _, _, _, rfl, H2.out.ret _ _ (b0 := false) (A0 := none) (l0 := 0) (c0 := 0) ?_ ?_, ?_⟩
  · rw [Hc.out _ _ (by simp)]; go_simp
  · rw [Hc.out _ _ (by simp)]; go_simp
  · exact ((Hb0.out.trans (((Below.refl _ _).drew.trans Hb3.out).mono Hb0.out.size)).setCell (by simp; omega) _).setCell (by simp; omega) _
end Go.Proofs.Ytfpliceenjbclaa
