/- The law RootboundVariations: the walk. -/
import Derived.Test.YtfpliceenjbclaaRbG
namespace Go.Proofs.Ytfpliceenjbclaa
open Go.RowKit

theorem getD_ge_plen (p : List Int) : ∀ k, plen p ≤ k → p.getD k 0 = 0 := by
  induction p with
  | nil => intro k _; simp
  | cons d ds ih =>
    intro k h
    by_cases h1 : plen ds = 0
    · by_cases h2 : d = 0
      · cases k with
        | zero => simpa using h2
        | succ k => rw [List.getD_cons_succ]; exact ih k (by omega)
      · rw [plen_cons_one h1 h2] at h
        obtain ⟨j, rfl⟩ : ∃ j, k = j + 1 := ⟨k - 1, by omega⟩
        rw [List.getD_cons_succ]; exact ih j (by omega)
    · rw [plen_cons_succ h1] at h
      obtain ⟨j, rfl⟩ : ∃ j, k = j + 1 := ⟨k - 1, by omega⟩
      rw [List.getD_cons_succ]; exact ih j (by omega)

theorem take_getD (p : List Int) {n k : Nat} (h : k < n) : (p.take n).getD k 0 = p.getD k 0 := by simp [List.getD_eq_getElem?_getD, h]

theorem rst_take (p : List Int) (n : Nat) : ∀ k, k ≤ n → rst (p.take n) k = rst p k := by
  intro k
  induction k with
  | zero => intro _; rfl
  | succ k ih => intro h; simp only [rst, take_getD p (show k < n by omega), ih (by omega)]
theorem rst_stop (p : List Int) (k j : Nat) (h : plen p ≤ k) : rst p (k + j) = rst p k := by
  induction j with
  | zero => rfl
  | succ j ih => rw [← Nat.add_assoc, rst, if_pos (getD_ge_plen p _ (by omega)), ih]
theorem vst_trim (p : List Int) : (vst (ptrim p) (plen p)).1 = (rst p p.length).1 := by
  rw [(vst_rst _ _).1, ptrim, rst_take _ _ _ (Nat.le_refl _)]
  have := rst_stop p (plen p) (p.length - plen p) (Nat.le_refl _)
  rw [show plen p + (p.length - plen p) = p.length by have := plen_le p; omega] at this
  rw [this]
theorem nst_take (p : List Int) (n : Nat) : ∀ k, k ≤ n → nst (p.take n) k = nst p k := by
  intro k
  induction k with
  | zero => intro _; rfl
  | succ k ih => intro h; simp only [nst, take_getD p (show k < n by omega), ih (by omega)]
theorem nst_stop (p : List Int) (k j : Nat) (h : plen p ≤ k) : nst p (k + j) = nst p k := by
  induction j with
  | zero => rfl
  | succ j ih => rw [← Nat.add_assoc, nst, getD_ge_plen p _ (by omega), ih]; simp
theorem nst_trim (p : List Int) : nst (ptrim p) (plen p) = nst p p.length := by
  rw [ptrim, nst_take _ _ _ (Nat.le_refl _)]
  have := nst_stop p (plen p) (p.length - plen p) (Nat.le_refl _)
  rw [show plen p + (p.length - plen p) = p.length by have := plen_le p; omega] at this
  rw [this]

theorem wl_tiny (p : List Int) (n m : Nat) : Tiny m (wl p n m) := by
  intro k
  rw [List.getD_eq_getElem?_getD]
  cases e : (wl p n m)[k]? with
  | none => simp
  | some x =>
    have hx : x ∈ wl p n m := List.mem_of_getElem? e
    obtain ⟨c, _, rfl⟩ := List.mem_map.1 hx
    show (min (max c (-(m : Int))) (m : Int)).natAbs ≤ m
    omega
theorem Tiny.i64 {m : Nat} {p : List Int} (h : Tiny m p) (hm : m ≤ 9223372036854775807) : ∀ c ∈ p, I64 c := by
  intro c hc
  obtain ⟨k, hk⟩ := List.getElem?_of_mem hc
  have := h k
  rw [List.getD_eq_getElem?_getD, hk] at this
  unfold I64
  simp at this
  omega
theorem Tiny.smp {m : Nat} {p : List Int} (h : Tiny m p) (hm : m ≤ 9223372036854775807) : SmP p := fun c hc => SmI.of64 (h.i64 hm c hc)
theorem Tiny.trim {m : Nat} {p : List Int} (h : Tiny m p) : Tiny m (ptrim p) := by
  intro k
  rcases Nat.lt_or_ge k (plen p) with h1 | h1
  · rw [ptrim, take_getD p h1]; exact h k
  · have := ptrim_length p
    rw [List.getD_eq_getElem?_getD, List.getElem?_eq_none (by omega)]; simp
theorem Tiny.normok {p : List Int} (h : Tiny 40000 p) (k : Nat) (hk : k ≤ 1000) : NormOK p k := by
  have h1 := nst_le h k
  have h2 := sq_le (h k)
  have h3 : ((k * (40000 * 40000) : Nat) : Int) ≤ 1600000000000 := by omega
  have h4 := h k
  refine ⟨.inl ?_, SmI.of64 (by unfold I64; omega), SmI.of64 (by unfold I64; omega), sm_small (by omega)⟩
  have : dlen (p.getD k 0).natAbs ≤ 1 := dlen_le_of_lt (by rw [Nat.pow_one, BB_eq]; omega)
  omega

set_option maxRecDepth 100000 in
set_option maxHeartbeats 2000000 in
theorem law_variations (A : Option Addr) (len cap : Nat) (p : List Int) (w : World) (h : I16At w A len cap p) (hlm : len ≤ 9223372036854775807) :
    Calls Try.prog 4 #[.slice A len cap] w fun e w' => e = .returned (.bool true) ∧ Below w.heap.size w w' := by
  go_enter Try.func4, Try.ntmps4
  go_wp2_with fail
  refine (awake_any _).mono ?_
  rintro e w1 ⟨rfl, hb1⟩
  have h1 := h.below hb1
  have Hb1 := Lib.hid hb1
  clear h hb1
  go_wp2_with fail
  refine (wide_any _ _ _ 12 40000 _ _ h1 (by omega) (by omega) (by omega) hlm).mono ?_
  rintro e w2 ⟨A2, c2, rfl, h2, hb2⟩
  have ht : Tiny 40000 (wl p 12 40000) := wl_tiny p 12 40000
  have hll : (wl p 12 40000).length ≤ 12 := by rw [wl_length]; omega
  have Hb2 := Lib.hid (Hb1.out.trans (hb2.mono Hb1.out.size))
  clear h1 hb2 Hb1
  generalize wl p 12 40000 = f at *
  obtain ⟨l2, hl2⟩ : ∃ l, l = f.length := ⟨_, rfl⟩
  rw [← hl2] at h2 hll ⊢
  have Hl2 := Lib.hid hl2
  clear hl2
  have hi64 := ht.i64 (by omega)
  have hsm := ht.trim.smp (by omega)
  go_wp2_with fail
  refine (poly_any _ _ _ _ _ h2 hi64 (by omega)).mono ?_
  rintro e w3 ⟨A3, l3, c3, rfl, h3, hb3⟩
  have h23 := h2.below hb3
  have Hb3 := Lib.hid (Hb2.out.trans (hb3.mono Hb2.out.size))
  have hl3 : l3 = plen f := by rw [← h3.length, ptrim_length]
  have hpl : plen f ≤ 12 := by have := plen_le f; have := Hl2.out; omega
  have Hl3 := Lib.hid hl3
  have hl3' : l3 ≤ 12 := by omega
  clear hb3 hl3
  go_wp2_with fail
  refine (rvar_any _ _ _ _ _ (h3.at_ ikN) hsm (by omega)).mono ?_
  rintro e w4 ⟨rfl, hb4⟩
  have e4 : (vst (ptrim f) l3).1 = (rst f l2).1 := by rw [Hl3.out, Hl2.out]; exact vst_trim f
  rw [e4]
  have h24 := h23.below hb4
  have Hb4 := Lib.hid (Hb3.out.trans (hb4.mono Hb3.out.size))
  clear e4 h3 hb4 h23 h2
  go_wp2_with fail
  refine (refvar_any _ _ _ _ _ h24 (by omega)).mono ?_
  rintro e w4 ⟨rfl, rfl⟩
  go_wp2_with fail
  refine (poly_any _ _ _ _ _ h24 hi64 (by omega)).mono ?_
  rintro e w5 ⟨A5, l5, c5, rfl, h5, hb5⟩
  have h25 := h24.below hb5
  have Hb5 := Lib.hid (Hb4.out.trans (hb5.mono Hb4.out.size))
  have hl5 : l5 = plen f := by rw [← h5.length, ptrim_length]
  have Hl5 := Lib.hid hl5
  have hl5' : l5 ≤ 12 := by omega
  have hno : ∀ k, k < l5 → NormOK (ptrim f) k := fun k hk => ht.trim.normok k (by omega)
  have Hno := Lib.hid hno
  clear hb5 hl5 h24 hno
  go_wp2_with fail
  refine (rnorm_any ikN _ _ _ _ _ h5 hsm (by omega) Hno.out).mono ?_
  rintro e w6 ⟨n6, A6, l6, c6, rfl, h6, hb6⟩
  have e6 : nst (ptrim f) l5 = nst f l2 := by rw [Hl5.out, Hl2.out]; exact nst_trim f
  rw [e6] at h6
  have h26 := h25.below hb6
  have Hb6 := Lib.hid (Hb5.out.trans (hb6.mono Hb5.out.size))
  clear e6 h5 hb6 h25
  go_wp2_with fail
  refine (refnorm_any _ _ _ _ _ h26 (by omega) ht).mono ?_
  rintro e w7 ⟨rfl, nq, rfl⟩
  have hbq : Below w6.heap.size w6 (w6.drewN nq) := ⟨rfl, rfl, rfl, Nat.le_refl _, fun _ _ => rfl⟩
  have h7 := h6.below hbq
  have Hb7 := Lib.hid (Hb6.out.trans (hbq.mono Hb6.out.size))
  have hn7 : I64 (nst f l2) := by
    have h1 := nst_le ht l2
    unfold I64
    omega
  clear h26 h6 hbq
  go_wp2_with fail
  refine (is_any _ _ _ _ _ _ _ h7.at_ (SmI.of64 hn7) hn7).mono ?_
  rintro e w8 ⟨rfl, hb8⟩
  rw [show decide (nst f l2 = nst f l2) = true from decide_eq_true rfl]
  have Hb8 := Lib.hid (Hb7.out.trans (hb8.mono Hb7.out.size))
  clear h7 hb8 hn7
  go_wp2
  go_ret
  exact ⟨rfl, Hb8.out⟩
end Go.Proofs.Ytfpliceenjbclaa
