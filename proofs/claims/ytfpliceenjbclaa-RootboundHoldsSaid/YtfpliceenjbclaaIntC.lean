/- The walks of package integer, third part: Add, Sub. -/
import Derived.Test.YtfpliceenjbclaaIntB
import Derived.Deep.RegionHeld3
namespace Go.Proofs.Ytfpliceenjbclaa
open Go.RowKit

theorem SmI.abs {z : Int} (h : SmI z) : Sm z.natAbs := h

theorem add_same (neg : Bool) {a b : Int} (ha : a = sgn neg a.natAbs) (hb : b = sgn neg b.natAbs) : sgn neg (a.natAbs + b.natAbs) = a + b := by
  cases neg
  · simp only [sgn_false] at *; omega
  · simp only [sgn_true] at *; omega
theorem add_ge (na nb : Bool) {a b : Int} (hn : na ≠ nb) (ha : a = sgn na a.natAbs) (hb : b = sgn nb b.natAbs) (h : b.natAbs ≤ a.natAbs) : sgn na (a.natAbs - b.natAbs) = a + b := by
  cases na <;> cases nb <;> simp only [sgn_true, sgn_false, ne_eq, not_true, reduceCtorEq, not_false_eq_true] at * <;> omega
theorem add_lt (na nb : Bool) {a b : Int} (hn : na ≠ nb) (ha : a = sgn na a.natAbs) (hb : b = sgn nb b.natAbs) (h : a.natAbs < b.natAbs) : sgn nb (b.natAbs - a.natAbs) = a + b := by
  cases na <;> cases nb <;> simp only [sgn_true, sgn_false, ne_eq, not_true, reduceCtorEq, not_false_eq_true] at * <;> omega

theorem below_three {B : Nat} (w : World) (o1 o2 o3 : Obj) (h : B ≤ w.heap.size) : Below B w (((w.alloc o1).alloc o2).alloc o3) := (below_two w o1 o2 h).alloc (by simp; omega) _

set_option maxHeartbeats 2000000 in
theorem iadd_any (na : Bool) (A : Option Addr) (la ca : Nat) (a : Int) (nb : Bool) (B : Option Addr) (lb cb : Nat) (b : Int) (w : World) (ha : IntAt w na A la ca a) (hb : IntAt w nb B lb cb b) (hsa : SmI a) (hsb : SmI b) (hs : Sm (a.natAbs + b.natAbs)) :
    Calls Try.prog 88 #[.agg #[.bool na, .slice A la ca], .agg #[.bool nb, .slice B lb cb]] w fun e w' => ∃ neg' A' len' cap', e = .returned (.agg #[.bool neg', .slice A' len' cap']) ∧ IntN w' neg' A' len' cap' (a + b) ∧ Below w.heap.size w w' := by
  have hb0 : Below w.heap.size w (((w.alloc (ibox na A la ca)).alloc (ibox nb B lb cb)).alloc (ibox false none 0 0)) := below_three w _ _ _ (Nat.le_refl _)
  have hA0 := ha.nat.below hb0
  have hB0 := hb.nat.below hb0
  by_cases hn : na = nb
  · subst hn
    have hsum := Lib.hid (add_same na ha.sign hb.sign)
    have Hb0 := Lib.hid hb0
    clear ha hb hb0
    have hd : (na == na) = true := by simp
    go_enter Try.func88, Try.ntmps88
    go_wp2_with fail
    have hA1 := hA0.below (Below.refl _ _).drew
    have hB1 := hB0.below (Below.refl _ _).drew
    clear hA0 hB0
    go_region_held3 (fun w' => w'.cell? ⟨w.heap.size, 0, none⟩ = some (.bool na) ∧ w'.cell? ⟨w.heap.size, 1, none⟩ = some (.slice A la ca) ∧ w'.cell? ⟨w.heap.size + 1, 1, none⟩ = some (.slice B lb cb)) (refine ⟨?_, ?_, ?_⟩ <;> go_simp) (first
      | (go_at_call 141; go_must (refine (add_any _ _ _ _ _ _ _ _ _ hA1 hB1 hs).mono ?_; rintro e w1 ⟨A1, l1, c1, rfl, h1, hb1⟩; obtain ⟨hc, hf⟩ := bcell hb1; have hsz := hb1.size; simp only [World.size_alloc, World.size_drew] at hsz))
      | (go_at_call 119; go_must (refine (signed_any _ _ _ _ _ _ h1).mono ?_; rintro e w2 ⟨n2, rfl, h2, hb2⟩; clear hc hf; have hb3 := hb1.trans (hb2.mono hb1.size); obtain ⟨hc, hf⟩ := bcell hb3; have hsz2 := hb2.size)))
    have H2 := Lib.hid h2
    have Hb3 := Lib.hid hb3
    have Hc := Lib.hid hc
    rw [hsum.out] at H2
    clear h2 hb3 hb1 hb2 h1 hA1 hB1
    go_wp2
    refine bodyPost_ret (v := .agg #[.bool n2, .slice A1 l1 c1]) (by simp [results, Try.results88, go_sem, hc]) rfl ⟨_, _, _, _, rfl, H2.out.ret _ _ (b0 := false) (A0 := none) (l0 := 0) (c0 := 0) ?_ ?_, ?_⟩
    · rw [Hc.out _ _ (by simp)]; go_simp
    · rw [Hc.out _ _ (by simp)]; go_simp
    · exact ((Hb0.out.trans (((Below.refl _ _).drew.trans Hb3.out).mono Hb0.out.size)).setCell (by simp; omega) _).setCell (by simp; omega) _
  · have hd : (na == nb) = false := by simpa using hn
    have Hn := Lib.hid hn
    have Hb0 := Lib.hid hb0
    have hsa0 := ha.sign
    have hsb0 := hb.sign
    have Hsa := Lib.hid hsa0
    have Hsb := Lib.hid hsb0
    clear ha hb hb0 hn hsa0 hsb0
    by_cases hle : b.natAbs ≤ a.natAbs
    · have hcm : 0 ≤ cmpn a.natAbs b.natAbs := by unfold cmpn; rw [if_neg (by omega)]; split <;> omega
      have hsum := Lib.hid (add_ge na nb Hn.out Hsa.out Hsb.out hle)
      go_enter Try.func88, Try.ntmps88
      go_wp2_with fail
      refine (cmp_any _ _ _ _ _ _ _ _ _ hA0 hB0 hsa hsb).mono ?_
      rintro e w1 ⟨rfl, nq, rfl⟩
      have hbq : Below (((w.alloc (ibox na A la ca)).alloc (ibox nb B lb cb)).alloc (ibox false none 0 0)).heap.size (((w.alloc (ibox na A la ca)).alloc (ibox nb B lb cb)).alloc (ibox false none 0 0)) ((((w.alloc (ibox na A la ca)).alloc (ibox nb B lb cb)).alloc (ibox false none 0 0)).drewN nq) := ⟨rfl, rfl, rfl, Nat.le_refl _, fun _ _ => rfl⟩
      have hA1 := hA0.below hbq
      have hB1 := hB0.below hbq
      have Hbq := Lib.hid hbq
      clear hA0 hB0 hbq
      go_wp2_with fail
      refine (sub_ge _ _ _ _ _ _ _ _ _ hA1 hB1 hsa hle).mono ?_
      rintro e w2 ⟨A1, l1, c1, rfl, h1, hb1⟩
      clear hcm hA1 hB1
      obtain ⟨hc, hf⟩ := bcell (Hbq.out.trans (hb1.mono Hbq.out.size))
      have hsz : (((w.alloc (ibox na A la ca)).alloc (ibox nb B lb cb)).alloc (ibox false none 0 0)).heap.size ≤ w2.heap.size := hb1.size
      simp only [World.size_alloc] at hsz
      go_wp2_with fail
      refine (signed_any _ _ _ _ _ _ h1).mono ?_
      rintro e w3 ⟨n2, rfl, h2, hb2⟩
      clear hc hf
      have hb3 := Hbq.out.trans ((hb1.trans (hb2.mono hb1.size)).mono Hbq.out.size)
      obtain ⟨hc, hf⟩ := bcell hb3
      have hsz2 := hb2.size
      have H2 := Lib.hid h2
      have Hb3 := Lib.hid hb3
      have Hc := Lib.hid hc
      rw [hsum.out] at H2
      clear h2 hb3 hb1 hb2 h1
      go_wp2
      refine bodyPost_ret (v := .agg #[.bool n2, .slice A1 l1 c1]) (by simp [results, Try.results88, go_sem, hc]) rfl ⟨_, _, _, _, rfl, H2.out.ret _ _ (b0 := false) (A0 := none) (l0 := 0) (c0 := 0) ?_ ?_, ?_⟩
      · rw [Hc.out _ _ (by simp)]; go_simp
      · rw [Hc.out _ _ (by simp)]; go_simp
      · exact ((Hb0.out.trans (Hb3.out.mono Hb0.out.size)).setCell (by simp; omega) _).setCell (by simp; omega) _
    · have hcm : cmpn a.natAbs b.natAbs < 0 := by rw [cmpn_lt (by omega)]; omega
      have hsum := Lib.hid (add_lt na nb Hn.out Hsa.out Hsb.out (by omega))
      go_enter Try.func88, Try.ntmps88
      go_wp2_with fail
      refine (cmp_any _ _ _ _ _ _ _ _ _ hA0 hB0 hsa hsb).mono ?_
      rintro e w1 ⟨rfl, nq, rfl⟩
      have hbq : Below (((w.alloc (ibox na A la ca)).alloc (ibox nb B lb cb)).alloc (ibox false none 0 0)).heap.size (((w.alloc (ibox na A la ca)).alloc (ibox nb B lb cb)).alloc (ibox false none 0 0)) ((((w.alloc (ibox na A la ca)).alloc (ibox nb B lb cb)).alloc (ibox false none 0 0)).drewN nq) := ⟨rfl, rfl, rfl, Nat.le_refl _, fun _ _ => rfl⟩
      have hA1 := hA0.below hbq
      have hB1 := hB0.below hbq
      have Hbq := Lib.hid hbq
      clear hA0 hB0 hbq
      go_wp2_with fail
      refine (sub_ge _ _ _ _ _ _ _ _ _ hB1 hA1 hsb (by omega)).mono ?_
      rintro e w2 ⟨A1, l1, c1, rfl, h1, hb1⟩
      clear hcm hA1 hB1
      obtain ⟨hc, hf⟩ := bcell (Hbq.out.trans (hb1.mono Hbq.out.size))
      have hsz : (((w.alloc (ibox na A la ca)).alloc (ibox nb B lb cb)).alloc (ibox false none 0 0)).heap.size ≤ w2.heap.size := hb1.size
      simp only [World.size_alloc] at hsz
      go_wp2_with fail
      refine (signed_any _ _ _ _ _ _ h1).mono ?_
      rintro e w3 ⟨n2, rfl, h2, hb2⟩
      clear hc hf
      have hb3 := Hbq.out.trans ((hb1.trans (hb2.mono hb1.size)).mono Hbq.out.size)
      obtain ⟨hc, hf⟩ := bcell hb3
      have hsz2 := hb2.size
      have H2 := Lib.hid h2
      have Hb3 := Lib.hid hb3
      have Hc := Lib.hid hc
      rw [hsum.out] at H2
      clear h2 hb3 hb1 hb2 h1
      go_wp2
      refine bodyPost_ret (v := .agg #[.bool n2, .slice A1 l1 c1]) (by simp [results, Try.results88, go_sem, hc]) rfl ⟨_, _, _, _, rfl, H2.out.ret _ _ (b0 := false) (A0 := none) (l0 := 0) (c0 := 0) ?_ ?_, ?_⟩
      · rw [Hc.out _ _ (by simp)]; go_simp
      · rw [Hc.out _ _ (by simp)]; go_simp
      · exact ((Hb0.out.trans (Hb3.out.mono Hb0.out.size)).setCell (by simp; omega) _).setCell (by simp; omega) _

theorem IntAt.neg {w : World} {neg : Bool} {A : Option Addr} {len cap : Nat} {z : Int} (h : IntAt w neg A len cap z) : IntAt w (!neg) A len cap (-z) := by
  refine ⟨by rw [Int.natAbs_neg]; exact h.nat, ?_⟩
  have := h.sign
  rw [Int.natAbs_neg]
  cases neg <;> simp only [sgn_true, sgn_false, Bool.not_true, Bool.not_false] at * <;> omega

set_option maxHeartbeats 1000000 in
theorem isub_any (na : Bool) (A : Option Addr) (la ca : Nat) (a : Int) (nb : Bool) (B : Option Addr) (lb cb : Nat) (b : Int) (w : World) (ha : IntAt w na A la ca a) (hb : IntAt w nb B lb cb b) (hsa : SmI a) (hsb : SmI b) (hs : Sm (a.natAbs + b.natAbs)) :
    Calls Try.prog 99 #[.agg #[.bool na, .slice A la ca], .agg #[.bool nb, .slice B lb cb]] w fun e w' => ∃ neg' A' len' cap', e = .returned (.agg #[.bool neg', .slice A' len' cap']) ∧ IntN w' neg' A' len' cap' (a - b) ∧ Below w.heap.size w w' := by
  have hb0 : Below w.heap.size w (((w.alloc (ibox na A la ca)).alloc (ibox nb B lb cb)).alloc (ibox false none 0 0)) := below_three w _ _ _ (Nat.le_refl _)
  have hA0 := ha.below hb0
  have hB0 := (hb.below hb0).neg
  have Hb0 := Lib.hid hb0
  clear ha hb hb0
  go_enter Try.func99, Try.ntmps99
  go_wp2_with fail
  refine (iadd_any _ _ _ _ _ _ _ _ _ _ _ hA0 hB0 hsa (by unfold SmI at *; rw [Int.natAbs_neg]; exact hsb) (by rw [Int.natAbs_neg]; exact hs)).mono ?_
  rintro e w1 ⟨n1, A1, l1, c1, rfl, h1, hb1⟩
  obtain ⟨hc, hf⟩ := bcell hb1
  have hsz := hb1.size
  simp only [World.size_alloc] at hsz
  have H1 : Hid (IntN w1 n1 A1 l1 c1 (a - b)) := by rw [← Int.sub_eq_add_neg] at h1; exact h1
  have Hb1 := Lib.hid hb1
  have Hc := Lib.hid hc
  clear h1 hb1 hA0 hB0
  go_wp2
  refine bodyPost_ret (v := .agg #[.bool n1, .slice A1 l1 c1]) (by simp [results, Try.results99, go_sem, hc]) rfl ⟨_, _, _, _, rfl, H1.out.ret _ _ (b0 := false) (A0 := none) (l0 := 0) (c0 := 0) ?_ ?_, ?_⟩
  · rw [Hc.out _ _ (by simp)]; go_simp
  · rw [Hc.out _ _ (by simp)]; go_simp
  · exact ((Hb0.out.trans (Hb1.out.mono Hb0.out.size)).setCell (by simp; omega) _).setCell (by simp; omega) _
end Go.Proofs.Ytfpliceenjbclaa
