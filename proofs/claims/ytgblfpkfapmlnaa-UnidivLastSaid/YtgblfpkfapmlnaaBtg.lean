/- The walks of cylinderref02.Mul, Add, Small. -/
import Derived.Test.YtgblfpkfapmlnaaBtf
namespace Go.Proofs.Ytgblfpkfapmlnaa
open Go.RowKit

theorem zmul_sg (a b : Int) : sgn (decide (sg a * sg b < 0)) (a.natAbs * b.natAbs) = a * b := by
  rw [← Int.natAbs_mul]
  rcases sg_cases a with ⟨h1, e1⟩ | ⟨h1, e1⟩ | ⟨h1, e1⟩ <;> rcases sg_cases b with ⟨h2, e2⟩ | ⟨h2, e2⟩ | ⟨h2, e2⟩ <;> rw [e1, e2]
  · have := Int.mul_pos_of_neg_of_neg h1 h2
    simp only [show decide ((-1 : Int) * -1 < 0) = false from rfl, sgn_false]; omega
  · subst h2; simp [sgn]
  · have := Int.mul_neg_of_neg_of_pos h1 h2
    simp only [show decide ((-1 : Int) * 1 < 0) = true from rfl, sgn_true]; omega
  · subst h1; simp [sgn]
  · subst h1; simp [sgn]
  · subst h1; simp [sgn]
  · have := Int.mul_neg_of_pos_of_neg h1 h2
    simp only [show decide ((1 : Int) * -1 < 0) = true from rfl, sgn_true]; omega
  · subst h2; simp [sgn]
  · have := Int.mul_pos h1 h2
    simp only [show decide ((1 : Int) * 1 < 0) = false from rfl, sgn_false]; omega
theorem zadd_same {a b : Int} (h : 0 ≤ sg a * sg b) : sgn (decide (sg a + sg b < 0)) (a.natAbs + b.natAbs) = a + b := by
  rcases sg_cases a with ⟨h1, e1⟩ | ⟨h1, e1⟩ | ⟨h1, e1⟩ <;> rcases sg_cases b with ⟨h2, e2⟩ | ⟨h2, e2⟩ | ⟨h2, e2⟩ <;> rw [e1, e2] at h ⊢ <;> first
    | (exact absurd h (by decide))
    | (simp [sgn]; omega)
theorem zadd_ge {a b : Int} (h : sg a * sg b < 0) (hl : b.natAbs ≤ a.natAbs) : sgn (decide (sg a < 0)) (a.natAbs - b.natAbs) = a + b := by
  rcases sg_cases a with ⟨h1, e1⟩ | ⟨h1, e1⟩ | ⟨h1, e1⟩ <;> rcases sg_cases b with ⟨h2, e2⟩ | ⟨h2, e2⟩ | ⟨h2, e2⟩ <;> rw [e1, e2] at h <;> rw [e1] <;> first
    | (exact absurd h (by decide))
    | (simp [sgn]; omega)
theorem zadd_lt {a b : Int} (h : sg a * sg b < 0) (hl : a.natAbs < b.natAbs) : sgn (decide (sg b < 0)) (b.natAbs - a.natAbs) = a + b := by
  rw [zadd_ge (a := b) (b := a) (by rw [Int.mul_comm]; exact h) (by omega), Int.add_comm]
theorem sg_mul_bd (a b : Int) : -1 ≤ sg a * sg b ∧ sg a * sg b ≤ 1 ∧ -2 ≤ sg a + sg b ∧ sg a + sg b ≤ 2 ∧ -1 ≤ sg a ∧ sg a ≤ 1 ∧ -1 ≤ sg b ∧ sg b ≤ 1 := by
  rcases sg_cases a with ⟨_, e1⟩ | ⟨_, e1⟩ | ⟨_, e1⟩ <;> rcases sg_cases b with ⟨_, e2⟩ | ⟨_, e2⟩ | ⟨_, e2⟩ <;> rw [e1, e2] <;> decide

/-- bits of a product and a sum -/
theorem bln_mul (a b : Nat) : bln (a * b) ≤ bln a + bln b := bln_le (by
  rw [Nat.pow_add]
  exact Nat.mul_lt_mul'' (bln_lt a) (bln_lt b))
theorem bln_add (a b : Nat) : bln (a + b) ≤ max (bln a) (bln b) + 1 := bln_le (by
  have h1 : a < 2 ^ max (bln a) (bln b) := Nat.lt_of_lt_of_le (bln_lt a) (Nat.pow_le_pow_right (by decide) (by omega))
  have h2 : b < 2 ^ max (bln a) (bln b) := Nat.lt_of_lt_of_le (bln_lt b) (Nat.pow_le_pow_right (by decide) (by omega))
  rw [Nat.pow_succ]; omega)
theorem bln_mono {a b : Nat} (h : a ≤ b) : bln a ≤ bln b := bln_le (Nat.lt_of_le_of_lt h (bln_lt b))

set_option maxRecDepth 100000 in
set_option maxHeartbeats 2000000 in
theorem zmul_any (p : Int) (A : Option Addr) (la ca : Nat) (a : Int) (q : Int) (B : Option Addr) (lb cb : Nat) (b : Int) (w : World) (ha : ZAt w p A la ca a) (hb : ZAt w q B lb cb b) (hma : la ≤ 400000) (hmb : lb ≤ 400000) :
    Calls Try.prog 77 #[.agg #[.int .i64 p, .slice A la ca], .agg #[.int .i64 q, .slice B lb cb]] w (ZRet w (a * b)) := by
  have hb0 : Below w.heap.size w (((w.alloc (zbox p A la ca)).alloc (zbox q B lb cb)).alloc (zbox 0 none 0 0)) := below_three w _ _ _ (Nat.le_refl _)
  have hA0 := ha.bits.below hb0
  have hB0 := hb.bits.below hb0
  have hsg := sg_mul_bd a b
  have hms := zmul_sg a b
  have hla := ha.len
  have hlb := hb.len
  rw [← ha.sign, ← hb.sign] at hsg hms
  obtain ⟨m, hm⟩ : ∃ m, m = p * q := ⟨_, rfl⟩
  rw [← hm] at hsg hms
  have i1 : p * q = m := hm.symm
  have i2 : IntKind.i64.wrap m = m := IntWalk.i64_in _ (by omega)
  have Hms := Lib.hid hms
  have hmul := bln_mul a.natAbs b.natAbs
  have Hmul := Lib.hid (show bln (a.natAbs * b.natAbs) ≤ 1000000 by omega)
  have Hb0 := Lib.hid hb0
  clear ha hb hb0 hms hm hsg hmul hla hlb
  go_enter Try.func77, Try.ntmps77
  go_wp2_with fail
  have hA1 := hA0.below (Below.refl _ _).drew
  have hB1 := hB0.below (Below.refl _ _).drew
  clear hA0 hB0
  go_region_held3 (fun w' => w'.cell? ⟨w.heap.size, 0, none⟩ = some (.int .i64 p) ∧ w'.cell? ⟨w.heap.size, 1, none⟩ = some (.slice A la ca) ∧ w'.cell? ⟨w.heap.size + 1, 0, none⟩ = some (.int .i64 q) ∧ w'.cell? ⟨w.heap.size + 1, 1, none⟩ = some (.slice B lb cb)) (refine ⟨?_, ?_, ?_, ?_⟩ <;> go_simp) (first
    | (go_at_call 98; go_must (refine (bmul_any _ _ _ a.natAbs _ _ _ b.natAbs _ hA1 hB1 hma hmb).mono ?_; rintro e w1 ⟨A1, l1, c1, rfl, h1, ht1, hb1⟩; obtain ⟨hc, hf⟩ := bcell hb1; have hsz := hb1.size; simp only [World.size_alloc, World.size_drew] at hsz))
    | (go_at_call 71; go_must (refine (zmake_any _ _ _ _ _ _ h1 ht1 (by rw [← h1.length, bts_length]; exact Hmul.out)).mono ?_; rintro e w2 ⟨s2, A2, l2, c2, rfl, h2, hb2⟩; clear hc hf; have hb3 := hb1.trans (hb2.mono hb1.size); obtain ⟨hc, hf⟩ := bcell hb3; have hsz2 := hb2.size)))
  have H2 := Lib.hid h2
  have Hb3 := Lib.hid hb3
  have Hc := Lib.hid hc
  rw [Hms.out] at H2
  clear h2 hb3 hb1 hb2 h1 hA1 hB1
  go_wp2
  refine bodyPost_ret (v := .agg #[.int .i64 s2, .slice A2 l2 c2]) (by simp [results, Try.results77, go_sem, hc]) rfl ⟨_, _, _, _, rfl, H2.out.ret _ _ (A0 := none) (l0 := 0) (c0 := 0) ?_ ?_, ?_⟩
  · rw [Hc.out _ _ (by simp)]; go_simp
  · rw [Hc.out _ _ (by simp)]; go_simp
  · exact ((Hb0.out.trans (((Below.refl _ _).drew.trans Hb3.out).mono Hb0.out.size)).setCell (by simp; omega) _).setCell (by simp; omega) _

set_option maxRecDepth 100000 in
set_option maxHeartbeats 4000000 in
theorem zadd_any (p : Int) (A : Option Addr) (la ca : Nat) (a : Int) (q : Int) (B : Option Addr) (lb cb : Nat) (b : Int) (w : World) (ha : ZAt w p A la ca a) (hb : ZAt w q B lb cb b) (hma : la ≤ 900000) (hmb : lb ≤ 900000) :
    Calls Try.prog 76 #[.agg #[.int .i64 p, .slice A la ca], .agg #[.int .i64 q, .slice B lb cb]] w (ZRet w (a + b)) := by
  have hb0 : Below w.heap.size w (((w.alloc (zbox p A la ca)).alloc (zbox q B lb cb)).alloc (zbox 0 none 0 0)) := below_three w _ _ _ (Nat.le_refl _)
  have hA0 := ha.bits.below hb0
  have hB0 := hb.bits.below hb0
  have hsg := sg_mul_bd a b
  have hms := zadd_same (a := a) (b := b)
  have hge := zadd_ge (a := a) (b := b)
  have hlt := zadd_lt (a := a) (b := b)
  have hla := ha.len
  have hlb := hb.len
  rw [← ha.sign, ← hb.sign] at hsg hms
  rw [← ha.sign, ← hb.sign] at hge hlt
  obtain ⟨m, hm⟩ : ∃ m, m = p * q := ⟨_, rfl⟩
  obtain ⟨t, ht⟩ : ∃ t, t = p + q := ⟨_, rfl⟩
  rw [← hm] at hsg hms hge hlt
  rw [← ht] at hsg hms
  have i1 : p * q = m := hm.symm
  have i2 : IntKind.i64.wrap m = m := IntWalk.i64_in _ (by omega)
  have i3 : p + q = t := ht.symm
  have i4 : IntKind.i64.wrap t = t := IntWalk.i64_in _ (by omega)
  have hadd := bln_add a.natAbs b.natAbs
  have Hadd := Lib.hid (show bln (a.natAbs + b.natAbs) ≤ 1000000 by omega)
  have Hs1 := Lib.hid (show bln (a.natAbs - b.natAbs) ≤ 1000000 by have := bln_mono (Nat.sub_le a.natAbs b.natAbs); omega)
  have Hs2 := Lib.hid (show bln (b.natAbs - a.natAbs) ≤ 1000000 by have := bln_mono (Nat.sub_le b.natAbs a.natAbs); omega)
  have Hb0 := Lib.hid hb0
  clear ha hb hb0 hm ht hsg hadd hla hlb
  by_cases hm0 : 0 ≤ m
  · have Hms := Lib.hid (hms hm0)
    clear hms hge hlt
    go_enter Try.func76, Try.ntmps76
    go_wp2_with fail
    have hA1 := hA0.below (Below.refl _ _).drew
    have hB1 := hB0.below (Below.refl _ _).drew
    clear hA0 hB0
    go_region_held3 (fun w' => w'.cell? ⟨w.heap.size, 0, none⟩ = some (.int .i64 p) ∧ w'.cell? ⟨w.heap.size, 1, none⟩ = some (.slice A la ca) ∧ w'.cell? ⟨w.heap.size + 1, 0, none⟩ = some (.int .i64 q) ∧ w'.cell? ⟨w.heap.size + 1, 1, none⟩ = some (.slice B lb cb)) (refine ⟨?_, ?_, ?_, ?_⟩ <;> go_simp) (first
      | (go_at_call 95; go_must (refine (badd_any _ _ _ a.natAbs _ _ _ b.natAbs _ hA1 hB1 (by omega) (by omega)).mono ?_; rintro e w1 ⟨A1, l1, c1, rfl, h1, ht1, hb1⟩; obtain ⟨hc, hf⟩ := bcell hb1; have hsz := hb1.size; simp only [World.size_alloc, World.size_drew] at hsz))
      | (go_at_call 71; go_must (refine (zmake_any _ _ _ _ _ _ h1 ht1 (by rw [← h1.length, bts_length]; exact Hadd.out)).mono ?_; rintro e w2 ⟨s2, A2, l2, c2, rfl, h2, hb2⟩; clear hc hf; have hb3 := hb1.trans (hb2.mono hb1.size); obtain ⟨hc, hf⟩ := bcell hb3; have hsz2 := hb2.size)))
    have H2 := Lib.hid h2
    have Hb3 := Lib.hid hb3
    have Hc := Lib.hid hc
    rw [Hms.out] at H2
    clear h2 hb3 hb1 hb2 h1 hA1 hB1
    go_wp2
    refine bodyPost_ret (v := .agg #[.int .i64 s2, .slice A2 l2 c2]) (by simp [results, Try.results76, go_sem, hc]) rfl ⟨_, _, _, _, rfl, H2.out.ret _ _ (A0 := none) (l0 := 0) (c0 := 0) ?_ ?_, ?_⟩
    · rw [Hc.out _ _ (by simp)]; go_simp
    · rw [Hc.out _ _ (by simp)]; go_simp
    · exact ((Hb0.out.trans (((Below.refl _ _).drew.trans Hb3.out).mono Hb0.out.size)).setCell (by simp; omega) _).setCell (by simp; omega) _
  · have hmn : m < 0 := by omega
    by_cases hle : b.natAbs ≤ a.natAbs
    · have hcm : 0 ≤ ncmp a.natAbs b.natAbs := by unfold ncmp; rw [if_neg (by omega)]; split <;> omega
      have Hms := Lib.hid (hge hmn hle)
      clear hms hge hlt
      go_enter Try.func76, Try.ntmps76
      go_wp2_with fail
      refine (bcmp_any _ _ _ a.natAbs _ _ _ b.natAbs _ hA0 hB0 (by omega) (by omega)).mono ?_
      rintro e w1 ⟨rfl, rfl⟩
      go_wp2_with fail
      have hA1 := hA0.below (Below.refl _ _).drew
      have hB1 := hB0.below (Below.refl _ _).drew
      clear hA0 hB0
      go_region_held3 (fun w' => w'.cell? ⟨w.heap.size, 0, none⟩ = some (.int .i64 p) ∧ w'.cell? ⟨w.heap.size, 1, none⟩ = some (.slice A la ca) ∧ w'.cell? ⟨w.heap.size + 1, 0, none⟩ = some (.int .i64 q) ∧ w'.cell? ⟨w.heap.size + 1, 1, none⟩ = some (.slice B lb cb)) (refine ⟨?_, ?_, ?_, ?_⟩ <;> go_simp) (first
        | (go_at_call 97; go_must (refine (bsub_any _ _ _ a.natAbs _ _ _ b.natAbs _ hA1 hB1 (by omega) (by omega) hle).mono ?_; rintro e w1 ⟨A1, l1, c1, rfl, h1, ht1, hb1⟩; obtain ⟨hc, hf⟩ := bcell hb1; have hsz := hb1.size; simp only [World.size_alloc, World.size_drew] at hsz))
        | (go_at_call 71; go_must (refine (zmake_any _ _ _ _ _ _ h1 ht1 (by rw [← h1.length, bts_length]; exact Hs1.out)).mono ?_; rintro e w2 ⟨s2, A2, l2, c2, rfl, h2, hb2⟩; clear hc hf; have hb3 := hb1.trans (hb2.mono hb1.size); obtain ⟨hc, hf⟩ := bcell hb3; have hsz2 := hb2.size)))
      have H2 := Lib.hid h2
      have Hb3 := Lib.hid hb3
      have Hc := Lib.hid hc
      rw [Hms.out] at H2
      clear h2 hb3 hb1 hb2 h1 hA1 hB1
      go_wp2
      refine bodyPost_ret (v := .agg #[.int .i64 s2, .slice A2 l2 c2]) (by simp [results, Try.results76, go_sem, hc]) rfl ⟨_, _, _, _, rfl, H2.out.ret _ _ (A0 := none) (l0 := 0) (c0 := 0) ?_ ?_, ?_⟩
      · rw [Hc.out _ _ (by simp)]; go_simp
      · rw [Hc.out _ _ (by simp)]; go_simp
      · exact ((Hb0.out.trans (((Below.refl _ _).drew.trans Hb3.out).mono Hb0.out.size)).setCell (by simp; omega) _).setCell (by simp; omega) _
    · have hcm : ¬ 0 ≤ ncmp a.natAbs b.natAbs := by unfold ncmp; rw [if_pos (by omega)]; omega
      have Hms := Lib.hid (hlt hmn (by omega))
      clear hms hge hlt
      go_enter Try.func76, Try.ntmps76
      go_wp2_with fail
      refine (bcmp_any _ _ _ a.natAbs _ _ _ b.natAbs _ hA0 hB0 (by omega) (by omega)).mono ?_
      rintro e w1 ⟨rfl, rfl⟩
      go_wp2_with fail
      have hA1 := hA0.below (Below.refl _ _).drew
      have hB1 := hB0.below (Below.refl _ _).drew
      clear hA0 hB0
      go_region_held3 (fun w' => w'.cell? ⟨w.heap.size, 0, none⟩ = some (.int .i64 p) ∧ w'.cell? ⟨w.heap.size, 1, none⟩ = some (.slice A la ca) ∧ w'.cell? ⟨w.heap.size + 1, 0, none⟩ = some (.int .i64 q) ∧ w'.cell? ⟨w.heap.size + 1, 1, none⟩ = some (.slice B lb cb)) (refine ⟨?_, ?_, ?_, ?_⟩ <;> go_simp) (first
        | (go_at_call 97; go_must (refine (bsub_any _ _ _ b.natAbs _ _ _ a.natAbs _ hB1 hA1 (by omega) (by omega) (by omega)).mono ?_; rintro e w1 ⟨A1, l1, c1, rfl, h1, ht1, hb1⟩; obtain ⟨hc, hf⟩ := bcell hb1; have hsz := hb1.size; simp only [World.size_alloc, World.size_drew] at hsz))
        | (go_at_call 71; go_must (refine (zmake_any _ _ _ _ _ _ h1 ht1 (by rw [← h1.length, bts_length]; exact Hs2.out)).mono ?_; rintro e w2 ⟨s2, A2, l2, c2, rfl, h2, hb2⟩; clear hc hf; have hb3 := hb1.trans (hb2.mono hb1.size); obtain ⟨hc, hf⟩ := bcell hb3; have hsz2 := hb2.size)))
      have H2 := Lib.hid h2
      have Hb3 := Lib.hid hb3
      have Hc := Lib.hid hc
      rw [Hms.out] at H2
      clear h2 hb3 hb1 hb2 h1 hA1 hB1
      go_wp2
      refine bodyPost_ret (v := .agg #[.int .i64 s2, .slice A2 l2 c2]) (by simp [results, Try.results76, go_sem, hc]) rfl ⟨_, _, _, _, rfl, H2.out.ret _ _ (A0 := none) (l0 := 0) (c0 := 0) ?_ ?_, ?_⟩
      · rw [Hc.out _ _ (by simp)]; go_simp
      · rw [Hc.out _ _ (by simp)]; go_simp
      · exact ((Hb0.out.trans (((Below.refl _ _).drew.trans Hb3.out).mono Hb0.out.size)).setCell (by simp; omega) _).setCell (by simp; omega) _
end Go.Proofs.Ytgblfpkfapmlnaa
