/- The walks of package integer, first part: signed, From, Normal, Neg, Abs, Sign, Of. -/
import Derived.Test.YtfpliceenjbclaaNatE
namespace Go.Proofs.Ytfpliceenjbclaa
open Go.RowKit

/-- the sign -/
def sg (z : Int) : Int := if z < 0 then -1 else if z = 0 then 0 else 1
theorem sg_neg {z : Int} (h : z < 0) : sg z = -1 := if_pos h
theorem sg_zero : sg 0 = 0 := rfl
theorem sg_pos {z : Int} (h : 0 < z) : sg z = 1 := by unfold sg; rw [if_neg (by omega), if_neg (by omega)]

/-- the comparison of integers -/
def cmpz (a b : Int) : Int := if a < b then -1 else if a = b then 0 else 1

theorem NatN.intN {w : World} {neg : Bool} {A : Option Addr} {len cap n : Nat} (h : NatN w A len cap n) : IntN w (neg && decide (0 < len)) A len cap (sgn neg n) := by
  have hl := h.len
  refine ⟨by rw [sgn_natAbs]; exact h, ?_⟩
  cases neg
  · simp [sgn]
  · rcases Nat.eq_zero_or_pos n with h0 | h0
    · subst h0
      rw [dlen_zero] at hl
      subst hl
      simp [sgn]
    · have : 0 < len := by
        rcases Nat.eq_zero_or_pos len with h1 | h1
        · have := dlen_eq_zero (by omega : dlen n = 0); omega
        · exact h1
      simp [sgn, this]; omega

/-- A value that is no digit. -/
def NoDigit (v : Value) : Prop := ∀ k : Int, v ≠ .int .u32 k
theorem noDigit_bool (b : Bool) : NoDigit (.bool b) := fun _ h => by cases h
theorem noDigit_slice (A : Option Addr) (l c : Nat) : NoDigit (.slice A l c) := fun _ h => by cases h

theorem DigAt.store {w : World} {A : Option Addr} {len cap : Nat} {ds : List Nat} (h : DigAt w A len cap ds) {p : Addr} {v : Value} (u : Value) (hp : w.cell? p = some v) (hv : NoDigit v) : DigAt (w.setCell p u) A len cap ds := by
  refine ⟨h.length, h.cap, h.wd, ?_⟩
  rcases h.cells with h0 | ⟨b, off, hA, hlt, hc⟩
  · exact .inl h0
  · refine .inr ⟨b, off, hA, by simpa [World.setCell] using hlt, fun j hj => ?_⟩
    rw [World.cell?_setCell_other w p ⟨b, off + j, none⟩ u ?_]
    · exact hc j hj
    · intro e
      rw [e, hc j hj] at hp
      injection hp with hp
      exact hv _ hp.symm
theorem NatAt.store {w : World} {A : Option Addr} {len cap n : Nat} (h : NatAt w A len cap n) {p : Addr} {v : Value} (u : Value) (hp : w.cell? p = some v) (hv : NoDigit v) : NatAt (w.setCell p u) A len cap n := by
  obtain ⟨h1, ds, h2, h3⟩ := h
  exact ⟨h1, ds, h2.store u hp hv, h3⟩
theorem NatN.store {w : World} {A : Option Addr} {len cap n : Nat} (h : NatN w A len cap n) {p : Addr} {v : Value} (u : Value) (hp : w.cell? p = some v) (hv : NoDigit v) : NatN (w.setCell p u) A len cap n := ⟨h.digits.store u hp hv⟩
theorem IntN.store {w : World} {neg : Bool} {A : Option Addr} {len cap : Nat} {z : Int} (h : IntN w neg A len cap z) {p : Addr} {v : Value} (u : Value) (hp : w.cell? p = some v) (hv : NoDigit v) : IntN (w.setCell p u) neg A len cap z := ⟨h.nat.store u hp hv, h.sign⟩
theorem IntAt.store {w : World} {neg : Bool} {A : Option Addr} {len cap : Nat} {z : Int} (h : IntAt w neg A len cap z) {p : Addr} {v : Value} (u : Value) (hp : w.cell? p = some v) (hv : NoDigit v) : IntAt (w.setCell p u) neg A len cap z := ⟨h.nat.store u hp hv, h.sign⟩

/-- The two stores of a result of type Int into its cells. -/
theorem IntN.ret {w : World} {neg : Bool} {A : Option Addr} {len cap : Nat} {z : Int} (h : IntN w neg A len cap z) {g : Nat} {b0 : Bool} {A0 : Option Addr} {l0 c0 : Nat} (u v : Value) (h0 : w.cell? ⟨g, 0, none⟩ = some (.bool b0)) (h1 : w.cell? ⟨g, 1, none⟩ = some (.slice A0 l0 c0)) :
    IntN ((w.setCell ⟨g, 0, none⟩ u).setCell ⟨g, 1, none⟩ v) neg A len cap z := by
  refine (h.store u h0 (noDigit_bool _)).store v (v := .slice A0 l0 c0) ?_ (noDigit_slice _ _ _)
  rw [World.cell?_setCell_other w _ _ _ (by simp)]
  exact h1

set_option maxHeartbeats 400000 in
theorem signed_any (neg : Bool) (A : Option Addr) (len cap n : Nat) (w : World) (h : NatN w A len cap n) :
    Calls Try.prog 119 #[.bool neg, .slice A len cap] w fun e w' => ∃ neg', e = .returned (.agg #[.bool neg', .slice A len cap]) ∧ IntN w' neg' A len cap (sgn neg n) ∧ Below w.heap.size w w' := by
  have hi := h.intN (neg := neg)
  have Hi := Lib.hid hi
  clear hi h
  cases neg
  · go_enter Try.func119, Try.ntmps119
    go_wp2
    exact bodyPost_ret (v := .agg #[.bool false, .slice A len cap]) (by simp [results, Try.results119, go_sem]) rfl ⟨_, rfl, by simpa using Hi.out.below ((Below.refl _ _).alloc (Nat.le_refl _) _), (Below.refl _ _).alloc (Nat.le_refl _) _⟩
  · go_enter Try.func119, Try.ntmps119
    go_wp2
    exact bodyPost_ret (v := .agg #[.bool (decide (0 < len)), .slice A len cap]) (by simp [results, Try.results119, go_sem]) rfl ⟨_, rfl, by simpa using Hi.out.below ((Below.refl _ _).alloc (Nat.le_refl _) _), (Below.refl _ _).alloc (Nat.le_refl _) _⟩

set_option maxHeartbeats 400000 in
theorem from_any (neg : Bool) (A : Option Addr) (len cap n : Nat) (w : World) (h : NatAt w A len cap n) (hs : Sm n) :
    Calls Try.prog 143 #[.bool neg, .slice A len cap] w fun e w' => ∃ neg' A' len' cap', e = .returned (.agg #[.bool neg', .slice A' len' cap']) ∧ IntN w' neg' A' len' cap' (sgn neg n) ∧ Below w.heap.size w w' := by
  go_enter Try.func143, Try.ntmps143
  go_wp2_with fail
  refine (normal_any _ _ _ _ _ (h.below ((Below.refl _ _).alloc (Nat.le_refl _) _)) hs).mono ?_
  rintro e w1 ⟨A1, l1, c1, rfl, h1, hb1⟩
  go_wp2_with fail
  refine (signed_any _ _ _ _ _ _ h1).mono ?_
  rintro e w2 ⟨neg2, rfl, h2, hb2⟩
  have hb3 := hb1.trans (hb2.mono hb1.size)
  obtain ⟨hc, hf⟩ := bcell hb3
  have hz := hb3.size
  simp only [World.size_alloc] at hz
  have H2 := Lib.hid h2
  have Hb3 := Lib.hid hb3
  clear h2 hb3 hb1 hb2 h1
  have Hc := Lib.hid hc
  go_wp2
  refine bodyPost_ret (v := .agg #[.bool neg2, .slice A1 l1 c1]) (by simp [results, Try.results143, go_sem, hc]) rfl ⟨_, _, _, _, rfl, H2.out.ret _ _ (b0 := false) (A0 := none) (l0 := 0) (c0 := 0) ?_ ?_, ?_⟩
  · rw [Hc.out _ _ (by simp)]; exact World.cell?_alloc_new _ _ _ _
  · rw [Hc.out _ _ (by simp)]; exact World.cell?_alloc_new _ _ _ _
  · exact (((Below.refl _ _).alloc (Nat.le_refl _) _).trans (Hb3.out.mono (by simp))).setCell (Nat.le_refl _) _ |>.setCell (Nat.le_refl _) _

set_option maxHeartbeats 400000 in
theorem inormal_any (neg : Bool) (A : Option Addr) (len cap : Nat) (z : Int) (w : World) (h : IntAt w neg A len cap z) (hs : SmI z) :
    Calls Try.prog 121 #[.agg #[.bool neg, .slice A len cap]] w fun e w' => ∃ neg' A' len' cap', e = .returned (.agg #[.bool neg', .slice A' len' cap']) ∧ IntN w' neg' A' len' cap' z ∧ Below w.heap.size w w' := by
  have hz := Lib.hid h.sign
  go_enter Try.func121, Try.ntmps121
  go_wp2_with fail
  have hb0 : Below w.heap.size w ((w.alloc (Obj.cells #[Value.bool neg, Value.slice A len cap] 43)).alloc (Obj.cells #[Value.bool false, Value.slice none 0 0] 43)) := ((Below.refl _ _).alloc (Nat.le_refl _) _).alloc (by simp) _
  refine (from_any _ _ _ _ _ _ (h.nat.below hb0) hs).mono ?_
  rintro e w1 ⟨neg1, A1, l1, c1, rfl, h1, hb1⟩
  obtain ⟨hc, hf⟩ := bcell hb1
  have hsz := hb1.size
  simp only [World.size_alloc] at hsz
  rw [← hz.out] at h1
  have H1 := Lib.hid h1
  have Hb1 := Lib.hid hb1
  have Hb0 := Lib.hid hb0
  have Hc := Lib.hid hc
  clear h1 hb1 hb0 h
  go_wp2
  refine bodyPost_ret (v := .agg #[.bool neg1, .slice A1 l1 c1]) (by simp [results, Try.results121, go_sem, hc]) rfl ⟨_, _, _, _, rfl, H1.out.ret _ _ (b0 := false) (A0 := none) (l0 := 0) (c0 := 0) ?_ ?_, ?_⟩
  · rw [Hc.out _ _ (by simp)]; simp
  · rw [Hc.out _ _ (by simp)]; simp
  · exact ((Hb0.out.trans (Hb1.out.mono Hb0.out.size)).setCell (Nat.le_succ _) _).setCell (Nat.le_succ _) _
set_option maxHeartbeats 400000 in
theorem iabs_any (neg : Bool) (A : Option Addr) (len cap : Nat) (z : Int) (w : World) (h : IntAt w neg A len cap z) (hs : SmI z) :
    Calls Try.prog 96 #[.agg #[.bool neg, .slice A len cap]] w fun e w' => ∃ neg' A' len' cap', e = .returned (.agg #[.bool neg', .slice A' len' cap']) ∧ IntN w' neg' A' len' cap' (z.natAbs : Int) ∧ Below w.heap.size w w' := by
  go_enter Try.func96, Try.ntmps96
  go_wp2_with fail
  have hb0 : Below w.heap.size w ((w.alloc (Obj.cells #[Value.bool neg, Value.slice A len cap] 43)).alloc (Obj.cells #[Value.bool false, Value.slice none 0 0] 43)) := ((Below.refl _ _).alloc (Nat.le_refl _) _).alloc (by simp) _
  refine (from_any _ _ _ _ _ _ (h.nat.below hb0) hs).mono ?_
  rintro e w1 ⟨neg1, A1, l1, c1, rfl, h1, hb1⟩
  obtain ⟨hc, hf⟩ := bcell hb1
  have hsz := hb1.size
  simp only [World.size_alloc] at hsz
  rw [sgn_false] at h1
  have H1 := Lib.hid h1
  have Hb1 := Lib.hid hb1
  have Hb0 := Lib.hid hb0
  have Hc := Lib.hid hc
  clear h1 hb1 hb0 h
  go_wp2
  refine bodyPost_ret (v := .agg #[.bool neg1, .slice A1 l1 c1]) (by simp [results, Try.results96, go_sem, hc]) rfl ⟨_, _, _, _, rfl, H1.out.ret _ _ (b0 := false) (A0 := none) (l0 := 0) (c0 := 0) ?_ ?_, ?_⟩
  · rw [Hc.out _ _ (by simp)]; simp
  · rw [Hc.out _ _ (by simp)]; simp
  · exact ((Hb0.out.trans (Hb1.out.mono Hb0.out.size)).setCell (Nat.le_succ _) _).setCell (Nat.le_succ _) _
set_option maxHeartbeats 400000 in
theorem ineg_any (neg : Bool) (A : Option Addr) (len cap : Nat) (z : Int) (w : World) (h : IntAt w neg A len cap z) (hs : SmI z) :
    Calls Try.prog 98 #[.agg #[.bool neg, .slice A len cap]] w fun e w' => ∃ neg' A' len' cap', e = .returned (.agg #[.bool neg', .slice A' len' cap']) ∧ IntN w' neg' A' len' cap' (-z) ∧ Below w.heap.size w w' := by
  have hz := Lib.hid h.sign
  go_enter Try.func98, Try.ntmps98
  go_wp2_with fail
  have hb0 : Below w.heap.size w ((w.alloc (Obj.cells #[Value.bool neg, Value.slice A len cap] 43)).alloc (Obj.cells #[Value.bool false, Value.slice none 0 0] 43)) := ((Below.refl _ _).alloc (Nat.le_refl _) _).alloc (by simp) _
  refine (from_any _ _ _ _ _ _ (h.nat.below hb0) hs).mono ?_
  rintro e w1 ⟨neg1, A1, l1, c1, rfl, h1, hb1⟩
  obtain ⟨hc, hf⟩ := bcell hb1
  have hsz := hb1.size
  simp only [World.size_alloc] at hsz
  have e1 : sgn (!neg) z.natAbs = -z := by have := hz.out; cases neg <;> simp only [sgn_true, sgn_false, Bool.not_true, Bool.not_false] at * <;> omega
  rw [e1] at h1
  have H1 := Lib.hid h1
  have Hb1 := Lib.hid hb1
  have Hb0 := Lib.hid hb0
  have Hc := Lib.hid hc
  clear h1 hb1 hb0 h
  go_wp2
  refine bodyPost_ret (v := .agg #[.bool neg1, .slice A1 l1 c1]) (by simp [results, Try.results98, go_sem, hc]) rfl ⟨_, _, _, _, rfl, H1.out.ret _ _ (b0 := false) (A0 := none) (l0 := 0) (c0 := 0) ?_ ?_, ?_⟩
  · rw [Hc.out _ _ (by simp)]; simp
  · rw [Hc.out _ _ (by simp)]; simp
  · exact ((Hb0.out.trans (Hb1.out.mono Hb0.out.size)).setCell (Nat.le_succ _) _).setCell (Nat.le_succ _) _

set_option maxHeartbeats 400000 in
theorem isign_any (neg : Bool) (A : Option Addr) (len cap : Nat) (z : Int) (w : World) (h : IntAt w neg A len cap z) (hs : SmI z) :
    Calls Try.prog 63 #[.agg #[.bool neg, .slice A len cap]] w fun e w' => e = .returned (.int .i64 (sg z)) ∧ w' = w.alloc (Obj.cells #[Value.bool neg, Value.slice A len cap] 43) := by
  have hz := Lib.hid h.sign
  go_enter Try.func63, Try.ntmps63
  go_wp2_with fail
  refine (isZero_any _ _ _ _ _ (h.nat.below ((Below.refl _ _).alloc (Nat.le_refl _) _)) hs).mono ?_
  rintro e w1 ⟨rfl, rfl⟩
  clear h
  by_cases h0 : z.natAbs = 0
  · rw [show decide (z.natAbs = 0) = true from decide_eq_true h0]
    have e0 : sg z = 0 := by have : z = 0 := by omega
                             rw [this]; rfl
    have E0 := Lib.hid e0
    clear e0 h0
    go_wp2
    go_ret
    exact ⟨by rw [E0.out]; rfl, rfl⟩
  · rw [show decide (z.natAbs = 0) = false from decide_eq_false h0]
    cases neg
    · have e0 : sg z = 1 := sg_pos (by have := hz.out; rw [sgn_false] at this; omega)
      have E0 := Lib.hid e0
      clear e0 h0
      go_wp2
      go_ret
      exact ⟨by rw [E0.out]; rfl, rfl⟩
    · have e0 : sg z = -1 := sg_neg (by have := hz.out; rw [sgn_true] at this; omega)
      have E0 := Lib.hid e0
      clear e0 h0
      go_wp2
      go_ret
      exact ⟨by rw [E0.out]; rfl, rfl⟩

/-- an int64 -/
def I64 (n : Int) : Prop := -9223372036854775808 ≤ n ∧ n ≤ 9223372036854775807

theorem u64_neg {n : Int} (h : I64 n) (hn : n < 0) : IntKind.u64.wrap (-IntKind.u64.wrap n) = ((n.natAbs : Nat) : Int) := by
  unfold I64 at h
  rw [IntKind.wrap_u64, IntKind.wrap_u64]
  omega
theorem u64_pos {n : Int} (h : I64 n) (hn : ¬ n < 0) : IntKind.u64.wrap n = ((n.natAbs : Nat) : Int) := by
  unfold I64 at h
  rw [IntKind.wrap_u64]
  omega
theorem u64_abs {n : Int} (h : I64 n) : U64 n.natAbs := by
  unfold I64 at h
  unfold U64
  rw [BB_eq]
  omega

set_option maxHeartbeats 400000 in
theorem iof_any (n : Int) (w : World) (h : I64 n) :
    Calls Try.prog 39 #[.int .i64 n] w fun e w' => ∃ neg' A' len' cap', e = .returned (.agg #[.bool neg', .slice A' len' cap']) ∧ IntN w' neg' A' len' cap' n ∧ Below w.heap.size w w' := by
  have hu := u64_abs h
  by_cases hn : n < 0
  · have hw := Lib.hid (u64_neg h hn)
    have hs : true = decide (n < 0) := by simp [hn]
    have Hs := Lib.hid hs
    clear hs h
    go_enter Try.func39, Try.ntmps39
    go_wp2_with fail
    rw [hw.out]
    refine (of_any _ _ hu).mono ?_
    rintro e w1 ⟨A1, l1, c1, rfl, h1, hb1⟩
    obtain ⟨hc, hf⟩ := bcell hb1
    have hsz := hb1.size
    simp only [World.size_alloc] at hsz
    have H1 : Hid (IntN w1 true A1 l1 c1 n) := ⟨h1, Hs.out⟩
    have Hb1 := Lib.hid hb1
    have Hc := Lib.hid hc
    clear h1 hb1 hu
    go_wp2
    refine bodyPost_ret (v := .agg #[.bool true, .slice A1 l1 c1]) (by simp [results, Try.results39, go_sem, hc]) rfl ⟨_, _, _, _, rfl, H1.out.ret _ _ (b0 := false) (A0 := none) (l0 := 0) (c0 := 0) ?_ ?_, ?_⟩
    · rw [Hc.out _ _ (by simp)]; simp
    · rw [Hc.out _ _ (by simp)]; simp
    · exact (((Below.refl _ _).alloc (Nat.le_refl _) _).trans (Hb1.out.mono (by simp))).setCell (Nat.le_refl _) _ |>.setCell (Nat.le_refl _) _
  · have hw := Lib.hid (u64_pos h hn)
    have hs : false = decide (n < 0) := by simp; omega
    have Hs := Lib.hid hs
    clear hs h
    go_enter Try.func39, Try.ntmps39
    go_wp2_with fail
    rw [hw.out]
    refine (of_any _ _ hu).mono ?_
    rintro e w1 ⟨A1, l1, c1, rfl, h1, hb1⟩
    obtain ⟨hc, hf⟩ := bcell hb1
    have hsz := hb1.size
    simp only [World.size_alloc] at hsz
    have H1 : Hid (IntN w1 false A1 l1 c1 n) := ⟨h1, Hs.out⟩
    have Hb1 := Lib.hid hb1
    have Hc := Lib.hid hc
    clear h1 hb1 hu
    go_wp2
    refine bodyPost_ret (v := .agg #[.bool false, .slice A1 l1 c1]) (by simp [results, Try.results39, go_sem, hc]) rfl ⟨_, _, _, _, rfl, H1.out.ret _ _ (b0 := false) (A0 := none) (l0 := 0) (c0 := 0) ?_ ?_, ?_⟩
    · rw [Hc.out _ _ (by simp)]; simp
    · rw [Hc.out _ _ (by simp)]; simp
    · exact (((Below.refl _ _).alloc (Nat.le_refl _) _).trans (Hb1.out.mono (by simp))).setCell (Nat.le_refl _) _ |>.setCell (Nat.le_refl _) _
end Go.Proofs.Ytfpliceenjbclaa
