/- The walks of package rational, first part: parts, Sign. -/
import Derived.Test.YtfpliceenjbclaaGcd
import Derived.RegionTactic
namespace Go.Proofs.Ytfpliceenjbclaa
open Go.RowKit

/-- a fraction in a block of its own -/
abbrev rbox (n : Bool) (A : Option Addr) (l c : Nat) (B : Option Addr) (m d : Nat) : Obj := .cells #[.bool n, .slice A l c, .slice B m d] 50

theorem NatAt.int {w : World} {B : Option Addr} {m d q : Nat} (h : NatAt w B m d q) : IntAt w false B m d (q : Int) := ⟨by rw [Int.natAbs_natCast]; exact h, by rw [Int.natAbs_natCast, sgn_false]⟩

set_option maxRecDepth 100000 in
set_option maxHeartbeats 2000000 in
theorem parts_any (n : Bool) (A : Option Addr) (l c : Nat) (B : Option Addr) (m d q : Nat) (w : World) (hq : NatAt w B m d q) (hs : Sm q) (h0 : q ≠ 0) :
    Calls Try.prog 101 #[.agg #[.bool n, .slice A l c, .slice B m d]] w fun e w' => e = .returned (.tuple #[.agg #[.bool n, .slice A l c], .agg #[.bool false, .slice B m d]]) ∧ Below w.heap.size w w' := by
  have hb0 : Below w.heap.size w (((w.alloc (rbox n A l c B m d)).alloc (ibox false none 0 0)).alloc (ibox false none 0 0)) := below_three w _ _ _ (Nat.le_refl _)
  have hq1 := hq.below hb0
  have Hb0 := Lib.hid hb0
  have hdec := Lib.hid (show decide (q = 0) = false from decide_eq_false h0)
  clear hq hb0
  go_enter Try.func101, Try.ntmps101
  go_wp2_with fail
  refine (isZero_any _ _ _ _ _ hq1 hs).mono ?_
  rintro e w1 ⟨rfl, rfl⟩
  rw [hdec.out]
  clear hq1 h0
  go_wp2
  go_region
  all_goals go_wp2
  all_goals refine bodyPost_ret (v := .tuple #[.agg #[.bool n, .slice A l c], .agg #[.bool false, .slice B m d]]) (by simp [results, Try.results101, go_sem]) rfl ⟨rfl, (below_three w _ _ _ (Nat.le_refl _)).drew⟩

set_option maxRecDepth 100000 in
set_option maxHeartbeats 2000000 in
theorem rsign_any (n : Bool) (A : Option Addr) (l c : Nat) (B : Option Addr) (m d q : Nat) (z : Int) (w : World) (hz : IntAt w n A l c z) (hq : NatAt w B m d q) (hs : Sm q) (hsz : SmI z) (h0 : q ≠ 0) :
    Calls Try.prog 36 #[.agg #[.bool n, .slice A l c, .slice B m d]] w fun e w' => e = .returned (.int .i64 (sg z)) ∧ Below w.heap.size w w' := by
  have hb0 : Below w.heap.size w (w.alloc (rbox n A l c B m d)) := (Below.refl _ _).alloc (Nat.le_refl _) _
  have hz1 := hz.below hb0
  have hq1 := hq.below hb0
  have Hb0 := Lib.hid hb0
  clear hz hq hb0
  go_enter Try.func36, Try.ntmps36
  go_wp2_with fail
  refine (parts_any _ _ _ _ _ _ _ _ _ hq1 hs h0).mono ?_
  rintro e w1 ⟨rfl, hb1⟩
  have hb2 : Below w1.heap.size w1 ((w1.alloc (ibox n A l c)).alloc (ibox false B m d)) := below_two w1 _ _ (Nat.le_refl _)
  have hz2 := (hz1.below hb1).below hb2
  have Hb1 := Lib.hid (Hb0.out.trans (hb1.mono Hb0.out.size))
  have Hb2 := Lib.hid (Hb1.out.trans (hb2.mono Hb1.out.size))
  clear hz1 hq1 hb1 hb2
  go_wp2_with fail
  refine (isign_any _ _ _ _ _ _ hz2 hsz).mono ?_
  rintro e w2 ⟨rfl, rfl⟩
  clear hz2
  go_wp2
  go_ret
  exact ⟨rfl, Hb2.out.alloc Hb2.out.size _⟩
end Go.Proofs.Ytfpliceenjbclaa
