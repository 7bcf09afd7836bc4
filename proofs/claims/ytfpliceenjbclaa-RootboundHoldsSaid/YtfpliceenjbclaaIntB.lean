/- The walks of package integer, second part: Cmp, Same, Add, Sub, Mul. -/
import Derived.Test.YtfpliceenjbclaaIntA
import Derived.Deep.RegionWith
namespace Go.Proofs.Ytfpliceenjbclaa
open Go.RowKit

/-- a boxed integer -/
abbrev ibox (neg : Bool) (A : Option Addr) (len cap : Nat) : Obj := .cells #[.bool neg, .slice A len cap] 43

theorem sg_cases (z : Int) : (z < 0 ∧ sg z = -1) ∨ (z = 0 ∧ sg z = 0) ∨ (0 < z ∧ sg z = 1) := by
  rcases Int.lt_trichotomy z 0 with h | h | h
  · exact .inl ⟨h, sg_neg h⟩
  · subst h; exact .inr (.inl ⟨rfl, rfl⟩)
  · exact .inr (.inr ⟨h, sg_pos h⟩)

theorem cmpz_of_sg_lt {a b : Int} (h : sg a < sg b) : cmpz a b = -1 := by
  rcases sg_cases a with ⟨h1, h2⟩ | ⟨h1, h2⟩ | ⟨h1, h2⟩ <;> rcases sg_cases b with ⟨h3, h4⟩ | ⟨h3, h4⟩ | ⟨h3, h4⟩ <;> rw [h2, h4] at h <;> first | omega | (unfold cmpz; rw [if_pos (by omega)])
theorem cmpz_of_sg_gt {a b : Int} (h : sg b < sg a) : cmpz a b = 1 := by
  rcases sg_cases a with ⟨h1, h2⟩ | ⟨h1, h2⟩ | ⟨h1, h2⟩ <;> rcases sg_cases b with ⟨h3, h4⟩ | ⟨h3, h4⟩ | ⟨h3, h4⟩ <;> rw [h2, h4] at h <;> first | omega | (unfold cmpz; rw [if_neg (by omega), if_neg (by omega)])
theorem cmpz_eq_cmpn {a b : Int} {x y : Nat} (h1 : a < b ↔ x < y) (h2 : a = b ↔ x = y) : cmpz a b = cmpn x y := by
  unfold cmpz cmpn
  by_cases c1 : a < b
  · rw [if_pos c1, if_pos (h1.1 c1)]
  · rw [if_neg c1, if_neg (fun h => c1 (h1.2 h))]
    by_cases c2 : a = b
    · rw [if_pos c2, if_pos (h2.1 c2)]
    · rw [if_neg c2, if_neg (fun h => c2 (h2.2 h))]
theorem cmpz_of_neg {a b : Int} (h : sg a = sg b) (hn : sg a < 0) : cmpz a b = cmpn b.natAbs a.natAbs := by
  rcases sg_cases a with ⟨h1, h2⟩ | ⟨h1, h2⟩ | ⟨h1, h2⟩ <;> rcases sg_cases b with ⟨h3, h4⟩ | ⟨h3, h4⟩ | ⟨h3, h4⟩ <;> rw [h2] at hn <;> rw [h2, h4] at h <;> first | omega | exact cmpz_eq_cmpn (by omega) (by omega)
theorem cmpz_of_pos {a b : Int} (h : sg a = sg b) (hn : ¬ sg a < 0) : cmpz a b = cmpn a.natAbs b.natAbs := by
  rcases sg_cases a with ⟨h1, h2⟩ | ⟨h1, h2⟩ | ⟨h1, h2⟩ <;> rcases sg_cases b with ⟨h3, h4⟩ | ⟨h3, h4⟩ | ⟨h3, h4⟩ <;> rw [h2] at hn <;> rw [h2, h4] at h <;> first | omega | exact cmpz_eq_cmpn (by omega) (by omega)

/-- 'Below' over a world that is written out. -/
theorem below_two {B : Nat} (w : World) (o1 o2 : Obj) (h : B ≤ w.heap.size) : Below B w ((w.alloc o1).alloc o2) := ((Below.refl _ _).alloc h _).alloc (by simp; omega) _

set_option maxHeartbeats 1000000 in
theorem icmp_any (na : Bool) (A : Option Addr) (la ca : Nat) (a : Int) (nb : Bool) (B : Option Addr) (lb cb : Nat) (b : Int) (w : World) (ha : IntAt w na A la ca a) (hb : IntAt w nb B lb cb b) (hsa : SmI a) (hsb : SmI b) :
    Calls Try.prog 78 #[.agg #[.bool na, .slice A la ca], .agg #[.bool nb, .slice B lb cb]] w fun e w' => e = .returned (.int .i64 (cmpz a b)) ∧ Below w.heap.size w w' := by
  go_enter Try.func78, Try.ntmps78
  go_wp2_with fail
  go_cut [5, 6] (fun s5 s6 wx => s5 = .int .i64 (sg a) ∧ s6 = .int .i64 (sg b) ∧ wx.cell? ⟨w.heap.size, 1, none⟩ = some (.slice A la ca) ∧ wx.cell? ⟨w.heap.size + 1, 1, none⟩ = some (.slice B lb cb) ∧ Below w.heap.size w wx)
  case first =>
    go_region_with (first
      | (go_at_call_of 63 (Value.slice A la ca); go_must (refine (isign_any _ _ _ _ _ _ ?_ hsa).mono ?_; (exact ha.below (by repeat (first | exact Below.refl _ _ | refine Below.drew ?_ | refine Below.alloc ?_ (by simp; try omega) _))); rintro e w' ⟨rfl, rfl⟩))
      | (go_at_call_of 63 (Value.slice B lb cb); go_must (refine (isign_any _ _ _ _ _ _ ?_ hsb).mono ?_; (exact hb.below (by repeat (first | exact Below.refl _ _ | refine Below.drew ?_ | refine Below.alloc ?_ (by simp; try omega) _))); rintro e w' ⟨rfl, rfl⟩)))
    all_goals go_wp2_with fail
    all_goals go_meet
    all_goals
      refine ⟨rfl, rfl, by go_simp, by go_simp, ?_⟩
      repeat (first | exact Below.refl _ _ | refine Below.drew ?_ | refine Below.alloc ?_ (by simp; try omega) _)
  case rest =>
    obtain ⟨rfl, rfl, hcA, hcB, hbw⟩ := hcut
    rcases Int.lt_trichotomy (sg a) (sg b) with h | h | h
    · have hfin := Lib.hid (cmpz_of_sg_lt h)
      have Hb := Lib.hid hbw
      clear ha hb hbw
      go_wp2
      go_ret
      exact ⟨by rw [hfin.out]; rfl, Hb.out⟩
    · have HA := Lib.hid (ha.nat.below hbw)
      have HB := Lib.hid (hb.nat.below hbw)
      have H := Lib.hid h
      have Hb := Lib.hid hbw
      clear ha hb hbw
      have h1 : ¬ sg a < sg b := by omega
      have h2 : ¬ sg b < sg a := by omega
      clear h
      by_cases hn : sg a < 0
      · have hfin := Lib.hid (cmpz_of_neg H.out hn)
        go_wp2_with fail
        refine (cmp_any _ _ _ _ _ _ _ _ _ HB.out HA.out hsb hsa).mono ?_
        rintro e w1 ⟨rfl, nq, rfl⟩
        go_wp2
        go_ret
        exact ⟨by rw [hfin.out]; rfl, Hb.out.trans ⟨rfl, rfl, rfl, Nat.le_refl _, fun _ _ => rfl⟩⟩
      · have hfin := Lib.hid (cmpz_of_pos H.out hn)
        go_wp2_with fail
        refine (cmp_any _ _ _ _ _ _ _ _ _ HA.out HB.out hsa hsb).mono ?_
        rintro e w1 ⟨rfl, nq, rfl⟩
        go_wp2
        go_ret
        exact ⟨by rw [hfin.out]; rfl, Hb.out.trans ⟨rfl, rfl, rfl, Nat.le_refl _, fun _ _ => rfl⟩⟩
    · have hfin := Lib.hid (cmpz_of_sg_gt h)
      have Hb := Lib.hid hbw
      clear ha hb hbw
      go_wp2
      go_ret
      exact ⟨by rw [hfin.out]; rfl, Hb.out⟩

set_option maxHeartbeats 400000 in
theorem isame_any (na : Bool) (A : Option Addr) (la ca : Nat) (a : Int) (nb : Bool) (B : Option Addr) (lb cb : Nat) (b : Int) (w : World) (ha : IntAt w na A la ca a) (hb : IntAt w nb B lb cb b) (hsa : SmI a) (hsb : SmI b) :
    Calls Try.prog 53 #[.agg #[.bool na, .slice A la ca], .agg #[.bool nb, .slice B lb cb]] w fun e w' => e = .returned (.bool (decide (a = b))) ∧ Below w.heap.size w w' := by
  have hb0 : Below w.heap.size w ((w.alloc (ibox na A la ca)).alloc (ibox nb B lb cb)) := below_two w _ _ (Nat.le_refl _)
  go_enter Try.func53, Try.ntmps53
  go_wp2_with fail
  refine (icmp_any _ _ _ _ _ _ _ _ _ _ _ (ha.below hb0) (hb.below hb0) hsa hsb).mono ?_
  rintro e w1 ⟨rfl, hb1⟩
  have Hb1 := Lib.hid (hb0.trans (hb1.mono hb0.size))
  clear hb1 hb0 ha hb
  go_wp2
  go_ret
  refine ⟨?_, Hb1.out⟩
  have e1 : (cmpz a b == 0) = decide (a = b) := by
    unfold cmpz
    by_cases h1 : a < b
    · rw [if_pos h1, decide_eq_false (by omega)]; rfl
    · rw [if_neg h1]
      by_cases h2 : a = b
      · rw [if_pos h2, decide_eq_true h2]; rfl
      · rw [if_neg h2, decide_eq_false h2]; rfl
  rw [← e1]; rfl
end Go.Proofs.Ytfpliceenjbclaa
