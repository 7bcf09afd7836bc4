/- The law RootboundLaguerre: the walk. -/
import Derived.Test.YtfpliceenjbclaaLag
namespace Go.Proofs.Ytfpliceenjbclaa
open Go.RowKit

theorem getD_pos {l : List Int} {k : Nat} (h : ∀ x ∈ l, 0 < x) (hk : k < l.length) : 0 < l.getD k 0 := by
  rw [List.getD_eq_getElem?_getD, List.getElem?_eq_getElem hk]
  exact h _ (List.getElem_mem _)
theorem getD_neg {l : List Int} {k : Nat} (h : ∀ x ∈ l, x < 0) (hk : k < l.length) : l.getD k 0 < 0 := by
  rw [List.getD_eq_getElem?_getD, List.getElem?_eq_getElem hk]
  exact h _ (List.getElem_mem _)
theorem rst_pos {l : List Int} (h : ∀ x ∈ l, 0 < x) : ∀ k, k ≤ l.length → (rst l k).1 = 0 ∧ 0 ≤ (rst l k).2 := by
  intro k
  induction k with
  | zero => intro _; exact ⟨rfl, Int.le_refl _⟩
  | succ k ih =>
    intro hk
    obtain ⟨h1, h2⟩ := ih (by omega)
    have hx := getD_pos h (k := k) (by omega)
    rw [rst, if_neg (by omega)]
    refine ⟨?_, by show 0 ≤ l.getD k 0; omega⟩
    show (if _ then _ else _) = 0
    rw [if_neg (by omega)]; exact h1
theorem rst_neg {l : List Int} (h : ∀ x ∈ l, x < 0) : ∀ k, k ≤ l.length → (rst l k).1 = 0 ∧ (rst l k).2 ≤ 0 := by
  intro k
  induction k with
  | zero => intro _; exact ⟨rfl, Int.le_refl _⟩
  | succ k ih =>
    intro hk
    obtain ⟨h1, h2⟩ := ih (by omega)
    have hx := getD_neg h (k := k) (by omega)
    rw [rst, if_neg (by omega)]
    refine ⟨?_, by show l.getD k 0 ≤ 0; omega⟩
    show (if _ then _ else _) = 0
    rw [if_neg (by omega)]; exact h1
theorem VV_pos {l : List Int} (h : ∀ x ∈ l, 0 < x) : VV l = 0 := (rst_pos h _ (Nat.le_refl _)).1
theorem VV_neg {l : List Int} (h : ∀ x ∈ l, x < 0) : VV l = 0 := (rst_neg h _ (Nat.le_refl _)).1

theorem Tiny.mem {m : Nat} {p : List Int} (h : Tiny m p) : ∀ x ∈ p, x.natAbs ≤ m := by
  intro x hx
  obtain ⟨k, hk⟩ := List.getElem?_of_mem hx
  have := h k
  rw [List.getD_eq_getElem?_getD, hk] at this
  exact this
theorem tiny_of {m : Nat} {p : List Int} (h : ∀ x ∈ p, x.natAbs ≤ m) : Tiny m p := by
  intro k
  rw [List.getD_eq_getElem?_getD]
  cases e : p[k]? with
  | none => simp
  | some x => exact h x (List.mem_of_getElem? e)

/-- a polynomial other than 0: its part below the leading coefficient, and that -/
theorem ptrim_snoc {f : List Int} (h : 1 ≤ plen f) : ptrim f = (ptrim f).take (plen f - 1) ++ [plead f] := by
  have hp := ptrim_length f
  have e : plen f = (plen f - 1) + 1 := by omega
  have h1 := List.take_succ_eq_append_getElem (l := ptrim f) (i := plen f - 1) (by omega)
  rw [← e, List.take_of_length_le (by omega)] at h1
  have h2 : (ptrim f)[plen f - 1]'(by omega) = plead f := by
    unfold plead
    have h3 : (ptrim f)[plen f - 1]? = f[plen f - 1]? := by rw [ptrim, List.getElem?_take_of_lt (by omega)]
    rw [List.getD_eq_getElem?_getD, ← h3, List.getElem?_eq_getElem (by omega)]
    rfl
  rw [h2] at h1
  exact h1

theorem VV_big {f : List Int} {m : Nat} {c : Int} (ht : Tiny m f) (hc : (m : Int) < c) (h2 : 1 ≤ plen f) : VV (hsh c (ptrim f)) = 0 := by
  have hmem := (Tiny.trim ht).mem
  have hne : plead f ≠ 0 := plead_ne (by omega)
  rw [ptrim_snoc h2] at hmem ⊢
  rcases Int.lt_or_gt_of_ne hne with h | h
  · have hneg : hsh c (((ptrim f).take (plen f - 1) ++ [plead f]).map (- ·)) = (hsh c ((ptrim f).take (plen f - 1) ++ [plead f])).map (- ·) := hsh_neg c _
    rw [List.map_append, List.map_singleton] at hneg
    have hpos := hsh_pos (c := c) (by omega) (((ptrim f).take (plen f - 1)).map (- ·)) (-plead f) (by omega) (by
      intro x hx
      obtain ⟨y, hy, rfl⟩ := List.mem_map.1 hx
      have := hmem y (List.mem_append_left _ hy)
      omega)
    rw [hneg] at hpos
    refine VV_neg fun x hx => ?_
    have := hpos (-x) (List.mem_map_of_mem hx)
    omega
  · refine VV_pos (hsh_pos (by omega) _ _ h fun x hx => ?_)
    have := hmem x (List.mem_append_left _ hx)
    omega

/-- the least number with a property -/
theorem least {P : Nat → Prop} : ∀ K, P K → ∃ k, k ≤ K ∧ P k ∧ ∀ j, j < k → ¬ P j := by
  intro K
  induction K using Nat.strongRecOn with
  | _ K ih =>
    intro hK
    by_cases h : ∃ j, j < K ∧ P j
    · obtain ⟨j, hj, hp⟩ := h
      obtain ⟨k, h1, h2, h3⟩ := ih j hj hp
      exact ⟨k, by omega, h2, h3⟩
    · exact ⟨K, Nat.le_refl _, hK, fun j hj hp => h ⟨j, hj, hp⟩⟩

theorem syn_bound {c : Int} {C M : Nat} (hc : c.natAbs ≤ C) (l : List Int) (hl : ∀ x ∈ l, x.natAbs ≤ M) : ∀ x ∈ syn c l, x.natAbs ≤ M * (C + 1) ^ l.length := by
  induction l with
  | nil => intro x hx; cases hx
  | cons a t ih =>
    have h1 := ih (fun z hz => hl z (List.mem_cons_of_mem _ hz))
    have ha := hl a List.mem_cons_self
    have hp : 1 ≤ (C + 1) ^ t.length := Nat.one_le_pow _ _ (by omega)
    have hM : M ≤ M * (C + 1) ^ t.length := Nat.le_mul_of_pos_right _ hp
    have e : M * (C + 1) ^ (a :: t).length = M * (C + 1) ^ t.length * C + M * (C + 1) ^ t.length := by
      rw [List.length_cons, Nat.pow_succ, ← Nat.mul_assoc, Nat.mul_add, Nat.mul_one]
    intro x hx
    rw [e]
    simp only [syn, List.mem_cons] at hx
    rcases hx with rfl | hx
    · split
      · omega
      · have h2 : (hd0 (syn c t)).natAbs ≤ M * (C + 1) ^ t.length := by
          cases hu : syn c t with
          | nil => simp [hd0]
          | cons b u => rw [hu] at h1; exact h1 b List.mem_cons_self
        have h3 : (c * hd0 (syn c t)).natAbs ≤ M * (C + 1) ^ t.length * C := by
          rw [Int.natAbs_mul, Nat.mul_comm]
          exact Nat.mul_le_mul h2 hc
        omega
    · have := h1 x hx
      omega

theorem pass_bound {c : Int} {C M n : Nat} (hc : c.natAbs ≤ C) (low : Nat) (l : List Int) (hn : l.length ≤ n) (hl : ∀ x ∈ l, x.natAbs ≤ M) : ∀ x ∈ pass c low l, x.natAbs ≤ M * (C + 1) ^ n := by
  intro x hx
  have hp : 1 ≤ (C + 1) ^ n := Nat.one_le_pow _ _ (by omega)
  rw [pass] at hx
  rcases List.mem_append.1 hx with h | h
  · exact Nat.le_trans (hl x (List.mem_of_mem_take h)) (Nat.le_mul_of_pos_right _ hp)
  · refine Nat.le_trans (syn_bound hc _ (fun z hz => hl z (List.mem_of_mem_drop hz)) x h) ?_
    exact Nat.mul_le_mul_left _ (Nat.pow_le_pow_right (by omega) (by rw [List.length_drop]; omega))

theorem st_bound {c : Int} {C M n : Nat} (hc : c.natAbs ≤ C) (l : List Int) (hn : l.length ≤ n) (hl : ∀ x ∈ l, x.natAbs ≤ M) : ∀ k, ∀ x ∈ st c l k, x.natAbs ≤ M * (C + 1) ^ (n * k) := by
  intro k
  induction k with
  | zero => intro x hx; simpa [st] using hl x hx
  | succ k ih =>
    intro x hx
    have := pass_bound (n := n) hc k (st c l k) (by rw [st_length]; exact hn) ih x hx
    rw [Nat.mul_succ, Nat.pow_add, ← Nat.mul_assoc]
    exact this

theorem shok_tiny {c : Int} {C M n : Nat} (hc : c.natAbs ≤ C) (l : List Int) (hn : l.length ≤ n) (hl : ∀ x ∈ l, x.natAbs ≤ M) (h1 : C < BB ^ 40) (h2 : M * (C + 1) ^ (n * n + n) < BB ^ 40) : ShOK c l := by
  refine ⟨Nat.lt_of_le_of_lt hc h1, fun k j i hk => ?_⟩
  have hb := pass_bound (n := n) hc j (st c l k) (by rw [st_length]; exact hn) (st_bound hc l hn hl k)
  refine Nat.lt_of_le_of_lt ?_ h2
  refine Nat.le_trans (tiny_of hb i) ?_
  rw [Nat.mul_assoc, ← Nat.pow_add]
  exact Nat.mul_le_mul_left _ (Nat.pow_le_pow_right (by omega) (by have : n * k ≤ n * n := Nat.mul_le_mul_left _ (by omega); omega))

theorem two_natAbs (j : Nat) (h : j ≤ 7) : ((2 : Int) ^ j).natAbs ≤ 128 := by
  have e : (2 : Int) ^ j = ((2 ^ j : Nat) : Int) := by simp
  have h5 : 2 ^ j ≤ 2 ^ 7 := Nat.pow_le_pow_right (by omega) h
  rw [e, Int.natAbs_natCast]
  omega

theorem lag_shok {f : List Int} (ht : Tiny 100 f) (hl : f.length ≤ 6) (j : Nat) (hj : j ≤ 7) : ShOK (2 ^ j) (ptrim f) := by
  refine shok_tiny (C := 128) (M := 100) (n := 6) (two_natAbs j hj) _ (by have := plen_le f; have := ptrim_length f; omega) ht.trim.mem (by rw [BB_eq]; decide) (by rw [BB_eq]; decide)

theorem lag_bound {f : List Int} (ht : Tiny 100 f) (hl : f.length ≤ 6) (j : Nat) (hj : j ≤ 7) : ∀ x ∈ hsh (2 ^ j) f, x.natAbs ≤ 482680900000000 := by
  intro x hx
  refine Nat.le_trans (hsh_bound (C := 128) (M := 100) (two_natAbs j hj) (by omega) f ht.mem x hx) ?_
  calc 100 * (128 + 2) ^ f.length ≤ 100 * (128 + 2) ^ 6 := Nat.mul_le_mul_left _ (Nat.pow_le_pow_right (by omega) hl)
    _ = 482680900000000 := by decide

theorem Tiny.drop {m : Nat} {p : List Int} (h : Tiny m p) (j : Nat) : Tiny m (p.drop j) := tiny_of fun x hx => h.mem x (List.mem_of_mem_drop hx)

theorem lag_rsok {f : List Int} (ht : Tiny 100 f) (hl : f.length ≤ 6) (j : Nat) (hj : j ≤ 7) : RsOK (2 ^ j) f := by
  refine ⟨Nat.le_trans (two_natAbs j hj) (by omega), fun k => Nat.le_trans (ht k) (by omega), fun i => tiny_of fun x hx => ?_⟩
  exact Nat.le_trans (lag_bound (ht.drop i) (by rw [List.length_drop]; omega) j hj x hx) (by omega)

set_option maxRecDepth 100000 in
set_option maxHeartbeats 2000000 in
theorem law_laguerre (A : Option Addr) (len cap : Nat) (p : List Int) (w : World) (h : I16At w A len cap p) (hlm : len ≤ 9223372036854775807) :
    Calls Try.prog 5 #[.slice A len cap] w fun e w' => e = .returned (.bool true) ∧ Below w.heap.size w w' := by
  go_enter Try.func5, Try.ntmps5
  go_wp2_with fail
  refine (awake_any _).mono ?_
  rintro e w1 ⟨rfl, hb1⟩
  have h1 := h.below hb1
  have Hb1 := Lib.hid hb1
  clear h hb1
  go_wp2_with fail
  refine (wide_any _ _ _ 6 100 _ _ h1 (by omega) (by omega) (by omega) hlm).mono ?_
  rintro e w2 ⟨A2, c2, rfl, h2, hb2⟩
  have ht : Tiny 100 (wl p 6 100) := wl_tiny p 6 100
  have hll : (wl p 6 100).length ≤ 6 := by rw [wl_length]; omega
  have Hb2 := Lib.hid (Hb1.out.trans (hb2.mono Hb1.out.size))
  clear h1 hb2 Hb1
  generalize wl p 6 100 = f at *
  obtain ⟨l2, hl2⟩ : ∃ l, l = f.length := ⟨_, rfl⟩
  have hll2 := Lib.hid hll
  rw [← hl2] at h2 hll ⊢
  clear hl2
  have hi64 := ht.i64 (by omega)
  have hsm := ht.trim.smp (by omega)
  go_wp2_with fail
  refine (poly_any _ _ _ _ _ h2 hi64 (by omega)).mono ?_
  rintro e w3 ⟨A3, l3, c3, rfl, h3, hb3⟩
  have h23 := h2.below hb3
  have Hb3 := Lib.hid (Hb2.out.trans (hb3.mono Hb2.out.size))
  have hl3 : l3 = plen f := by rw [← h3.length, ptrim_length]
  have hpl : plen f ≤ 6 := by have := plen_le f; have := hll2.out; omega
  have hl3' : l3 ≤ 6 := by omega
  clear hb3 hl3
  by_cases hlow : plen f < 2
  · go_wp2_with fail
    refine (plag_low _ _ _ _ _ (h3.at_ ikN) hsm (by omega) (by rw [plen_ptrim]; exact hlow)).mono ?_
    rintro e w4 ⟨rfl, hb4⟩
    have h24 := h23.below hb4
    have Hb4 := Lib.hid (Hb3.out.trans (hb4.mono Hb3.out.size))
    clear h3 hb4 h23 h2
    go_wp2_with fail
    refine (rlag_low _ _ _ _ _ h24 (by omega) hlow).mono ?_
    rintro e w5 ⟨rfl, hb5⟩
    have Hb5 := Lib.hid (Hb4.out.trans (hb5.mono Hb4.out.size))
    clear h24 hb5
    go_wp2
    go_ret
    exact ⟨rfl, Hb5.out⟩
  · obtain ⟨k, hk, hz, hmin⟩ := least (P := fun k => VV (hsh (2 ^ k) f) = 0) 7 (by
      rw [VV_hsh]
      exact VV_big ht (by decide) (by omega))
    go_wp2_with fail
    refine (plag_any _ _ _ _ k _ h3 hsm (by omega) (by rw [plen_ptrim]; omega) (by omega) (by rw [ptrim_ptrim, ← VV_hsh]; exact hz) (fun j hj => by rw [ptrim_ptrim, ← VV_hsh]; exact hmin j hj) (fun j hj => by rw [ptrim_ptrim]; exact lag_shok ht hll2.out j (by omega)) (fun j hj => by
      rw [ptrim_ptrim]
      intro c hc
      exact sm_small (Nat.le_trans (lag_bound ht.trim (by have := ptrim_length f; omega) j (by omega) c hc) (by omega)))).mono ?_
    rintro e w4 ⟨rfl, hb4⟩
    have h24 := h23.below hb4
    have Hb4 := Lib.hid (Hb3.out.trans (hb4.mono Hb3.out.size))
    clear h3 hb4 h23 h2
    go_wp2_with fail
    refine (rlag_any _ _ _ _ k _ h24 (by omega) (by omega) (by omega) hz hmin (fun j hj => lag_rsok ht hll2.out j (by omega))).mono ?_
    rintro e w5 ⟨rfl, hb5⟩
    have Hb5 := Lib.hid (Hb4.out.trans (hb5.mono Hb4.out.size))
    clear h24 hb5 hz hmin
    go_wp2
    go_ret
    exact ⟨rfl, Hb5.out⟩
end Go.Proofs.Ytfpliceenjbclaa
