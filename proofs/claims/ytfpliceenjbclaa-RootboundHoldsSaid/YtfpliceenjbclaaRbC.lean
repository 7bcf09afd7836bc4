/- The walks of the law's helpers: is. -/
import Derived.Test.YtfpliceenjbclaaRbB
namespace Go.Proofs.Ytfpliceenjbclaa
open Go.RowKit

theorem cmpz_zero (a b : Int) : (cmpz a b == 0) = decide (a = b) := by
  unfold cmpz
  by_cases h : a < b
  · rw [if_pos h]; simp; omega
  · rw [if_neg h]
    by_cases h2 : a = b
    · rw [if_pos h2]; simp [h2]
    · rw [if_neg h2]; simp [h2]

set_option maxHeartbeats 1000000 in
theorem is_any (neg : Bool) (A : Option Addr) (len cap : Nat) (z n : Int) (w : World) (h : IntAt w neg A len cap z) (hs : SmI z) (hn : I64 n) :
    Calls Try.prog 26 #[.agg #[.bool neg, .slice A len cap], .int .i64 n] w fun e w' => e = .returned (.bool (decide (z = n))) ∧ Below w.heap.size w w' := by
  have hb0 : Below w.heap.size w (w.alloc (ibox neg A len cap)).drew := ((Below.refl _ _).alloc (Nat.le_refl _) _).drew
  have h0 := h.below hb0
  have Hb0 := Lib.hid hb0
  have hd := Lib.hid (cmpz_zero z n)
  clear h hb0
  go_enter Try.func26, Try.ntmps26
  go_wp2_with fail
  go_region_held3 (fun w' => w'.cell? ⟨w.heap.size, 0, none⟩ = some (.bool neg) ∧ w'.cell? ⟨w.heap.size, 1, none⟩ = some (.slice A len cap)) (refine ⟨?_, ?_⟩ <;> go_simp) (first
      | (go_at_call 39; go_must (refine (iof_any _ _ hn).mono ?_; rintro e w1 ⟨n1, A1, l1, c1, rfl, h1, hb1⟩; obtain ⟨hc, hf⟩ := bcell hb1; have hsz := hb1.size; simp only [World.size_alloc, World.size_drew] at hsz; have h2 := h0.below hb1))
      | (go_at_call 78; go_must (refine (icmp_any _ _ _ _ _ _ _ _ _ _ _ h2 h1.at_ hs (SmI.of64 hn)).mono ?_; rintro e w2 ⟨rfl, hb2⟩; clear hc hf; have hb3 := hb1.trans (hb2.mono hb1.size); obtain ⟨hc, hf⟩ := bcell hb3; have hsz2 := hb2.size)))
  have Hb3 := Lib.hid hb3
  clear hc hf hb1 hb2 hb3 h1 h2 h0
  go_wp2
  go_ret
  exact ⟨by rw [← hd.out]; rfl, Hb0.out.trans (Hb3.out.mono Hb0.out.size)⟩
end Go.Proofs.Ytfpliceenjbclaa
