/- The walks of package integer, fifth part: Shl. -/
import Derived.Test.YtfpliceenjbclaaIntD
import Derived.Test.YtfpliceenjbclaaShl
namespace Go.Proofs.Ytfpliceenjbclaa
open Go.RowKit

theorem sgn_mul (neg : Bool) {z : Int} (h : z = sgn neg z.natAbs) (n : Nat) : sgn neg (z.natAbs * 2 ^ n) = z * 2 ^ n := by
  generalize z.natAbs = x at *
  subst h
  cases neg <;> simp [sgn, Int.neg_mul]

set_option maxHeartbeats 1000000 in
theorem ishl_any (na : Bool) (A : Option Addr) (la ca : Nat) (a : Int) (n : Nat) (w : World) (ha : IntAt w na A la ca a) (hsa : SmI a) (hn : n ≤ 16777216) :
    Calls Try.prog 90 #[.agg #[.bool na, .slice A la ca], .int .i64 (n : Int)] w fun e w' => ∃ neg' A' len' cap', e = .returned (.agg #[.bool neg', .slice A' len' cap']) ∧ IntN w' neg' A' len' cap' (a * 2 ^ n) ∧ Below w.heap.size w w' := by
  have hb0 : Below w.heap.size w ((w.alloc (ibox na A la ca)).alloc (ibox false none 0 0)) := below_two w _ _ (Nat.le_refl _)
  have hA1 := (ha.nat.below hb0).below (Below.refl _ _).drew
  have hsum := Lib.hid (sgn_mul na ha.sign n)
  have Hb0 := Lib.hid hb0
  clear ha hb0
  go_enter Try.func90, Try.ntmps90
  go_wp2_with fail
  go_region_held3 (fun w' => w'.cell? ⟨w.heap.size, 0, none⟩ = some (.bool na) ∧ w'.cell? ⟨w.heap.size, 1, none⟩ = some (.slice A la ca)) (refine ⟨?_, ?_⟩ <;> go_simp) (first
      | (go_at_call 82; go_must (refine (shl_any _ _ _ _ _ _ hA1 hsa hn).mono ?_; rintro e w1 ⟨A1, l1, c1, rfl, h1, hb1⟩; obtain ⟨hc, hf⟩ := bcell hb1; have hsz := hb1.size; simp only [World.size_alloc, World.size_drew] at hsz))
      | (go_at_call 119; go_must (refine (signed_any _ _ _ _ _ _ h1).mono ?_; rintro e w2 ⟨n2, rfl, h2, hb2⟩; clear hc hf; have hb3 := hb1.trans (hb2.mono hb1.size); obtain ⟨hc, hf⟩ := bcell hb3; have hsz2 := hb2.size)))
  have H2 := Lib.hid h2
  have Hb3 := Lib.hid hb3
  have Hc := Lib.hid hc
  rw [hsum.out] at H2
  clear h2 hb3 hb1 hb2 h1 hA1
  go_wp2
  refine bodyPost_ret (v := .agg #[.bool n2, .slice A1 l1 c1]) (by simp [results, Try.results90, go_sem, hc]) rfl ⟨_, _, _, _, rfl, H2.out.ret _ _ (b0 := false) (A0 := none) (l0 := 0) (c0 := 0) ?_ ?_, ?_⟩
  · rw [Hc.out _ _ (by simp)]; go_simp
  · rw [Hc.out _ _ (by simp)]; go_simp
  · exact ((Hb0.out.trans (((Below.refl _ _).drew.trans Hb3.out).mono Hb0.out.size)).setCell (by simp) _).setCell (by simp) _
end Go.Proofs.Ytfpliceenjbclaa
