/- The walk of cylinderref15.Less. -/
import Derived.Test.YtdihefmjfnlpcaaGreatStf
import Derived.Test.YtdihefmjfnlpcaaGreatLcm
namespace Go.Proofs.YtdihefmjfnlpcaaGreat
open Go.RowKit

set_option maxRecDepth 100000 in
set_option maxHeartbeats 1000000 in
theorem less15_any (p d p' d' : Int) (w : World) (hp : I8 p) (hd : I8 d) (hp' : I8 p') (hd' : I8 d') :
    Calls Tryz.prog 26 #[.agg #[.int .i8 p, .int .i8 d], .agg #[.int .i8 p', .int .i8 d']] w fun e w' => e = .returned (.bool (decide (frn p d * frd d' < frn p' d' * frd d))) ∧ Below w.heap.size w w' := by
  have o1 := below_new w (.cells #[.int .i8 p, .int .i8 d] 41)
  have o2 := below_new (w.alloc (.cells #[.int .i8 p, .int .i8 d] 41)) (.cells #[.int .i8 p', .int .i8 d'] 41)
  have Hb := Lib.hid (o1.trans (o2.mono o1.size))
  obtain ⟨a1, a2, a3⟩ := fr_bd hp hd
  obtain ⟨b1, b2, b3⟩ := fr_bd hp' hd'
  obtain ⟨x, hx⟩ : ∃ x, x = frn p d := ⟨_, rfl⟩
  obtain ⟨y, hy⟩ : ∃ y, y = frd d := ⟨_, rfl⟩
  obtain ⟨x', hx'⟩ : ∃ x, x = frn p' d' := ⟨_, rfl⟩
  obtain ⟨y', hy'⟩ : ∃ y, y = frd d' := ⟨_, rfl⟩
  rw [← hx, ← hy, ← hx', ← hy']
  rw [← hx] at a1
  rw [← hy] at a2 a3
  rw [← hx'] at b1
  rw [← hy'] at b2 b3
  have m1 : (x * y').natAbs ≤ 128 * 128 := by rw [Int.natAbs_mul]; exact Nat.mul_le_mul a1 (by omega)
  have m2 : (x' * y).natAbs ≤ 128 * 128 := by rw [Int.natAbs_mul]; exact Nat.mul_le_mul b1 (by omega)
  have w1 : IntKind.i64.wrap (x * y') = x * y' := IntWalk.i64_in _ (by omega)
  have w2 : IntKind.i64.wrap (x' * y) = x' * y := IntWalk.i64_in _ (by omega)
  have X := Lib.hid hx
  have Y := Lib.hid hy
  have X' := Lib.hid hx'
  have Y' := Lib.hid hy'
  clear hx hy hx' hy' o1 o2 a1 a2 a3 b1 b2 b3 m1 m2
  go_enter Tryz.func26, Tryz.ntmps26
  go_wp2_with fail
  refine (frac_any _ _ _ hp hd).mono ?_
  rintro e wa ⟨rfl, hba⟩
  rw [← X.out, ← Y.out]
  obtain ⟨hcx, _⟩ := bcellS hba
  have k0 : wa.cell? ⟨w.heap.size + 1, 0, none⟩ = some (.int .i8 p') := (hcx _ (by go_simp)).trans (by go_simp)
  have k1 : wa.cell? ⟨w.heap.size + 1, 1, none⟩ = some (.int .i8 d') := (hcx _ (by go_simp)).trans (by go_simp)
  replace Hb := Lib.hid (Hb.out.trans (hba.mono Hb.out.size))
  clear hcx hba
  go_wp2_with fail
  refine (frac_any _ _ _ hp' hd').mono ?_
  rintro e wb ⟨rfl, hbb⟩
  rw [← X'.out, ← Y'.out]
  replace Hb := Lib.hid (Hb.out.trans (hbb.mono Hb.out.size))
  clear hbb k0 k1
  go_wp2
  go_ret
  exact ⟨rfl, Hb.out⟩
end Go.Proofs.YtdihefmjfnlpcaaGreat
