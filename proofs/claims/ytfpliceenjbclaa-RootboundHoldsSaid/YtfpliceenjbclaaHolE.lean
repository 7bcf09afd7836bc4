/- RootboundHolds: the comparisons of the law, as the walk meets them. Plain. -/
import Derived.Test.YtfpliceenjbclaaCnv
import Derived.Test.YtfpliceenjbclaaLagL
import Derived.Test.YtfpliceenjbclaaLow
import Derived.Test.YtfpliceenjbclaaLin
import Derived.Test.YtfpliceenjbclaaCauL
/- Plain: the product of the law's line with a polynomial has the root p / d; a root is below Cauchy's bound. -/
namespace Go.Proofs.Ytfpliceenjbclaa
open Go.RowKit

/-- the first m terms of the value of f at p / d, times d ^ n -/
def hs (p d : Int) (f : List Int) (n : Nat) : Nat → Int
  | 0 => 0
  | m + 1 => hs p d f n m + f.getD m 0 * p ^ m * d ^ (n - m)

theorem line_zero (p d : Int) (g : List Int) (k : Nat) (hk : k < g.length + 1) : (pmul [-p, d] g).getD k 0 = if k = 0 then -p * g.getD 0 0 else d * g.getD (k - 1) 0 - p * g.getD k 0 := by
  rw [pmul_get _ _ (by simp; omega), ← pcs_end _ _ _ (by simp)]
  rcases k with _ | k
  · simp [pcs]
  · rw [show min (k + 1) ([-p, d].length - 1) + 1 = 2 by simp, if_neg (by omega)]
    simp only [pcs, List.getD_cons_zero, List.getD_cons_succ, Nat.sub_zero, Nat.add_sub_cancel]
    grind

theorem line_hs (p d : Int) (g : List Int) (m : Nat) : m ≤ g.length → hs p d (pmul [-p, d] g) g.length (m + 1) = -(g.getD m 0 * p ^ (m + 1) * d ^ (g.length - m)) := by
  induction m with
  | zero =>
    intro h
    simp only [hs, Nat.sub_zero, Int.pow_zero, Int.zero_add, Nat.zero_add]
    rw [line_zero p d g 0 (by omega), if_pos rfl, Int.pow_succ, Int.pow_zero]
    grind
  | succ m ih =>
    intro h
    rw [hs, ih (by omega), line_zero p d g (m + 1) (by omega), if_neg (by omega)]
    have e : g.length - m = (g.length - (m + 1)) + 1 := by omega
    rw [e, Int.pow_succ d, Int.pow_succ p (m + 1), Nat.add_sub_cancel]
    grind

theorem line_root (p d : Int) (g : List Int) : hs p d (pmul [-p, d] g) g.length (g.length + 1) = 0 := by
  rw [line_hs p d g g.length (Nat.le_refl _), getD_out g (Nat.le_refl _)]
  simp

/-- the sum of P ^ k * D ^ (n - k), k below m -/
def gsum (P D n : Nat) : Nat → Nat
  | 0 => 0
  | m + 1 => gsum P D n m + P ^ m * D ^ (n - m)

theorem hs_bound (p d : Int) (f : List Int) (n H : Nat) : ∀ m, (∀ k, k < m → (f.getD k 0).natAbs ≤ H) → (hs p d f n m).natAbs ≤ H * gsum p.natAbs d.natAbs n m := by
  intro m
  induction m with
  | zero => intro _; simp [hs]
  | succ m ih =>
    intro h
    have h1 := ih (fun k hk => h k (by omega))
    have h2 := h m (by omega)
    have h3 := Int.natAbs_add_le (hs p d f n m) (f.getD m 0 * p ^ m * d ^ (n - m))
    rw [Int.natAbs_mul, Int.natAbs_mul, Int.natAbs_pow, Int.natAbs_pow] at h3
    have h4 := Nat.mul_le_mul_right (p.natAbs ^ m * d.natAbs ^ (n - m)) h2
    rw [← Nat.mul_assoc] at h4
    rw [hs, gsum, Nat.mul_add]
    omega

theorem gsum_geo (P D e n : Nat) (h : P = D + e) : ∀ m, m ≤ n → gsum P D n m * e + D ^ (n + 1) = P ^ m * D ^ (n + 1 - m) := by
  intro m
  induction m with
  | zero => intro _; simp [gsum]
  | succ m ih =>
    intro hm
    have h1 := ih (by omega)
    have e1 : n + 1 - m = (n - m) + 1 := by omega
    have e2 : n + 1 - (m + 1) = n - m := by omega
    rw [gsum, e2, Nat.pow_succ P]
    rw [e1, Nat.pow_succ D (n - m)] at h1
    subst h
    generalize (D + e) ^ m = X at *
    generalize D ^ (n - m) = Y at *
    generalize D ^ (n + 1) = Z at *
    grind

/-- a root p / d with |p| ≥ (1 + c) |d|, where |a n| c ≥ H, cannot be -/
theorem cauchy_root (p d : Int) (f : List Int) (n H c : Nat) (h0 : hs p d f n (n + 1) = 0) (hH : ∀ k, k < n → (f.getD k 0).natAbs ≤ H) (hn : f.getD n 0 ≠ 0) (hc : H ≤ (f.getD n 0).natAbs * c) (hd : d ≠ 0) : p.natAbs < (1 + c) * d.natAbs := by
  rcases Nat.lt_or_ge p.natAbs ((1 + c) * d.natAbs) with h | h
  · exact h
  · exfalso
    have hD : 0 < d.natAbs := by omega
    have h1 := hs_bound p d f n H n hH
    have h2 : (f.getD n 0).natAbs * p.natAbs ^ n = (hs p d f n n).natAbs := by
      have : hs p d f n n = -(f.getD n 0 * p ^ n) := by
        rw [hs, Nat.sub_self, Int.pow_zero, Int.mul_one] at h0; omega
      rw [this, Int.natAbs_neg, Int.natAbs_mul, Int.natAbs_pow]
    have hA : 0 < (f.getD n 0).natAbs := by omega
    generalize (f.getD n 0).natAbs = a at *
    generalize d.natAbs = D at *
    generalize p.natAbs = P at *
    rw [Nat.add_mul, Nat.one_mul] at h
    obtain ⟨e, rfl⟩ : ∃ e, P = D + e := ⟨P - D, by omega⟩
    have he : c * D ≤ e := by omega
    have h3 := gsum_geo (D + e) D e n rfl n (Nat.le_refl _)
    rw [show n + 1 - n = 1 by omega, Nat.pow_one] at h3
    rw [← h2] at h1
    have hZ : 0 < D ^ (n + 1) := Nat.pow_pos hD
    have hX : 0 < (D + e) ^ n := Nat.pow_pos (by omega)
    generalize (D + e) ^ n = X at *
    generalize gsum (D + e) D n n = G at *
    generalize D ^ (n + 1) = Z at *
    have k1 := Nat.mul_le_mul_right e h1
    have k2 : H * G * e + H * Z = H * (X * D) := by rw [Nat.mul_assoc, ← Nat.mul_add, h3]
    have k3 : H * (X * D) ≤ a * c * (X * D) := Nat.mul_le_mul_right _ hc
    have k4 : a * c * (X * D) = a * X * (c * D) := by grind
    have k5 : a * X * (c * D) ≤ a * X * e := Nat.mul_le_mul_left _ he
    rcases Nat.eq_zero_or_pos H with hz | hz
    · subst hz
      have : 0 < a * X := Nat.mul_pos hA hX
      simp at h1
      omega
    · have := Nat.mul_pos hz hZ
      omega
end Go.Proofs.Ytfpliceenjbclaa

/- Plain: a polynomial whose shift by c has no change of sign has no root above c. -/
namespace Go.Proofs.Ytfpliceenjbclaa
open Go.RowKit

/-- the value at p / d, times d ^ (length - 1), by Horner's scheme -/
def hom (p d : Int) : List Int → Int
  | [] => 0
  | a :: t => a * d ^ t.length + p * hom p d t

theorem hom_mulX (p d c : Int) : ∀ (y : List Int) (s : Int), hom p d (mulX c s y) = s * d ^ y.length + (p + c * d) * hom p d y := by
  intro y
  induction y with
  | nil => intro s; simp [mulX, hom]
  | cons b y ih =>
    intro s
    rw [mulX, hom, ih b, mulX_length, hom, List.length_cons, Int.pow_succ]
    generalize hom p d y = H
    generalize d ^ y.length = X
    grind

theorem hom_hsh (p d c : Int) (f : List Int) : hom p d (hsh c f) = hom (p + c * d) d f := by
  induction f with
  | nil => rfl
  | cons a t ih => rw [hsh, hom_mulX, ih, hom, hsh_length]

theorem hom_pos {p d : Int} (hp : 0 < p) (hd : 0 < d) : ∀ l : List Int, (∀ x ∈ l, 0 ≤ x) → 0 ≤ hom p d l ∧ (hom p d l = 0 → ∀ x ∈ l, x = 0) := by
  intro l
  induction l with
  | nil => intro _; exact ⟨Int.le_refl _, fun _ x hx => by simp at hx⟩
  | cons a t ih =>
    intro h
    obtain ⟨h1, h2⟩ := ih (fun x hx => h x (List.mem_cons_of_mem _ hx))
    have ha := h a List.mem_cons_self
    have hD : 0 < d ^ t.length := Int.pow_pos hd
    have k1 := Int.mul_nonneg ha (Int.le_of_lt hD)
    have k2 := Int.mul_nonneg (Int.le_of_lt hp) h1
    rw [hom]
    refine ⟨by omega, fun e => ?_⟩
    have e1 : a * d ^ t.length = 0 := by omega
    have e2 : p * hom p d t = 0 := by omega
    have a0 : a = 0 := by
      rcases Int.mul_eq_zero.1 e1 with h | h
      · exact h
      · omega
    have t0 : hom p d t = 0 := by
      rcases Int.mul_eq_zero.1 e2 with h | h
      · omega
      · exact h
    intro x hx
    rcases List.mem_cons.1 hx with rfl | hx
    · exact a0
    · exact h2 t0 x hx

theorem hom_neg (p d : Int) (l : List Int) : hom p d (l.map (- ·)) = -hom p d l := by
  induction l with
  | nil => rfl
  | cons a t ih => 
    rw [List.map_cons, hom, hom, ih, List.length_map]
    generalize hom p d t = H
    generalize d ^ t.length = X
    grind

theorem rst_signs (l : List Int) : ∀ k, (rst l k).1 = 0 → (0 ≤ (rst l k).2 → ∀ j, j < k → 0 ≤ l.getD j 0) ∧ ((rst l k).2 ≤ 0 → ∀ j, j < k → l.getD j 0 ≤ 0) := by
  intro k
  induction k with
  | zero => intro _; exact ⟨fun _ j hj => by omega, fun _ j hj => by omega⟩
  | succ k ih =>
    rw [rst]
    by_cases h0 : l.getD k 0 = 0
    · rw [if_pos h0]
      intro h
      obtain ⟨h1, h2⟩ := ih h
      refine ⟨fun h j hj => ?_, fun h j hj => ?_⟩
      · rcases Nat.lt_or_ge j k with hk | hk
        · exact h1 h j hk
        · rw [show j = k by omega]; omega
      · rcases Nat.lt_or_ge j k with hk | hk
        · exact h2 h j hk
        · rw [show j = k by omega]; omega
    · rw [if_neg h0]
      dsimp only
      intro h
      split at h
      · omega
      next hs =>
        obtain ⟨h1, h2⟩ := ih h
        refine ⟨fun h j hj => ?_, fun h j hj => ?_⟩
        · rcases Nat.lt_or_ge j k with hk | hk
          · exact h1 (by omega) j hk
          · rw [show j = k by omega]; exact h
        · rcases Nat.lt_or_ge j k with hk | hk
          · exact h2 (by omega) j hk
          · rw [show j = k by omega]; exact h

theorem VV_signs {l : List Int} (h : VV l = 0) : (∀ x ∈ l, 0 ≤ x) ∨ (∀ x ∈ l, x ≤ 0) := by
  obtain ⟨h1, h2⟩ := rst_signs l l.length h
  have mem : ∀ x ∈ l, ∃ j, j < l.length ∧ l.getD j 0 = x := fun x hx => by
    obtain ⟨j, hj, e⟩ := List.mem_iff_getElem.1 hx
    exact ⟨j, hj, by rw [List.getD_eq_getElem?_getD, List.getElem?_eq_getElem hj, e]; rfl⟩
  rcases Int.le_total 0 (rst l l.length).2 with hs | hs
  · exact .inl fun x hx => by obtain ⟨j, hj, rfl⟩ := mem x hx; exact h1 hs j hj
  · exact .inr fun x hx => by obtain ⟨j, hj, rfl⟩ := mem x hx; exact h2 hs j hj

/-- no root above c -/
theorem laguerre_root {p d c : Int} {f : List Int} (hd : 0 < d) (hV : VV (hsh c f) = 0) (h0 : hom p d f = 0) (hne : ∃ x ∈ hsh c f, x ≠ 0) : p ≤ c * d := by
  rcases Int.lt_or_le (c * d) p with h | h
  · exfalso
    obtain ⟨x, hx, hx0⟩ := hne
    have e : hom (p - c * d) d (hsh c f) = 0 := by rw [hom_hsh, show p - c * d + c * d = p by omega]; exact h0
    rcases VV_signs hV with hs | hs
    · exact hx0 ((hom_pos (by omega) hd _ hs).2 e x hx)
    · have := (hom_pos (p := p - c * d) (by omega) hd ((hsh c f).map (- ·)) (fun y hy => by obtain ⟨z, hz, rfl⟩ := List.mem_map.1 hy; have := hs z hz; omega)).2 (by rw [hom_neg, e]; rfl) (-x) (List.mem_map_of_mem hx)
      omega
  · exact h

theorem hs_cons (p d a : Int) (t : List Int) (n : Nat) : ∀ m, hs p d (a :: t) (n + 1) (m + 1) = a * d ^ (n + 1) + p * hs p d t n m := by
  intro m
  induction m with
  | zero => simp [hs]
  | succ m ih =>
    rw [hs, ih, hs, List.getD_cons_succ, Int.pow_succ p m, show n + 1 - (m + 1) = n - m by omega]
    generalize d ^ (n - m) = X
    generalize p ^ m = Y
    generalize hs p d t n m = Z
    grind

theorem hom_hs (p d : Int) : ∀ (f : List Int) (n : Nat), f.length = n + 1 → hom p d f = hs p d f n (n + 1) := by
  intro f
  induction f with
  | nil => intro n h; simp at h
  | cons a t ih =>
    intro n h
    rw [List.length_cons] at h
    rcases n with _ | n
    · have : t = [] := List.eq_nil_of_length_eq_zero (by omega)
      subst this
      simp [hom, hs]
    · rw [hs_cons, hom, ih n (by omega), show t.length = n + 1 by omega]

theorem hom_append (p d : Int) (l r : List Int) : hom p d (l ++ r) = hom p d l * d ^ r.length + p ^ l.length * hom p d r := by
  induction l with
  | nil => simp [hom]
  | cons a t ih =>
    rw [List.cons_append, hom, hom, ih, List.length_append, List.length_cons, Int.pow_add, Int.pow_succ]
    generalize hom p d t = H
    generalize hom p d r = R
    generalize d ^ t.length = X
    generalize d ^ r.length = Y
    generalize p ^ t.length = Z
    grind

theorem hom_reverse (p d : Int) (f : List Int) : hom d p f.reverse = hom p d f := by
  induction f with
  | nil => rfl
  | cons a t ih =>
    rw [List.reverse_cons, hom_append, ih, hom]
    simp only [List.length_reverse, hom, List.length_cons, List.length_nil, Int.pow_zero, Int.mul_zero, Int.add_zero, Int.mul_one]
    rw [show (0 + 1 : Nat) = 1 from rfl, Int.pow_succ, Int.pow_zero]
    grind

theorem hom_zeros (p d : Int) (m : Nat) : hom p d (List.replicate m 0) = 0 := by
  induction m with
  | zero => rfl
  | succ m ih => rw [List.replicate_succ, hom, ih]; simp

/-- the reversed polynomial has the root d / p -/
theorem rev_root {p d : Int} {f r : List Int} {m : Nat} (h : f.reverse = r ++ List.replicate m 0) (h0 : hom p d f = 0) (hp : p ≠ 0) : hom d p r = 0 := by
  rw [← hom_reverse, h, hom_append, hom_zeros, Int.mul_zero, Int.add_zero, List.length_replicate] at h0
  rcases Int.mul_eq_zero.1 h0 with h | h
  · exact h
  · exact absurd h (Int.pow_ne_zero hp)
end Go.Proofs.Ytfpliceenjbclaa

/- Plain: a close bound on what the Taylor shift holds on its way. -/
namespace Go.Proofs.Ytfpliceenjbclaa
open Go.RowKit

/-- b bounds a, number by number -/
inductive Dom : List Int → List Int → Prop
  | nil : Dom [] []
  | cons {a b : Int} {s t : List Int} (h : (a.natAbs : Int) ≤ b) (r : Dom s t) : Dom (a :: s) (b :: t)

theorem Dom.hd {s t : List Int} (h : Dom s t) : ((hd0 s).natAbs : Int) ≤ hd0 t := by
  cases h with
  | nil => simp [hd0]
  | cons h r => exact h
theorem Dom.length {s t : List Int} (h : Dom s t) : s.length = t.length := by
  induction h with
  | nil => rfl
  | cons h r ih => simp [ih]
theorem Dom.nil_iff {s t : List Int} (h : Dom s t) : s = [] ↔ t = [] := by
  cases h <;> simp
theorem Dom.append {s t s' t' : List Int} (h : Dom s t) (h' : Dom s' t') : Dom (s ++ s') (t ++ t') := by
  induction h with
  | nil => exact h'
  | cons h r ih => exact .cons h ih
theorem Dom.take {s t : List Int} (h : Dom s t) : ∀ n, Dom (s.take n) (t.take n) := by
  induction h with
  | nil => intro n; simp only [List.take_nil]; exact .nil
  | cons h r ih =>
    intro n
    cases n with
    | zero => exact .nil
    | succ n => exact .cons h (ih n)
theorem Dom.drop {s t : List Int} (h : Dom s t) : ∀ n, Dom (s.drop n) (t.drop n) := by
  induction h with
  | nil => intro n; simp only [List.drop_nil]; exact .nil
  | cons h r ih =>
    intro n
    cases n with
    | zero => exact .cons h r
    | succ n => exact ih n
theorem Dom.le {s t : List Int} {B : Nat} (h : Dom s t) (hb : ∀ x ∈ t, x.natAbs ≤ B) : ∀ x ∈ s, x.natAbs ≤ B := by
  induction h with
  | nil => intro x hx; cases hx
  | cons h r ih =>
    intro x hx
    rcases List.mem_cons.1 hx with rfl | hx
    · have := hb _ List.mem_cons_self; omega
    · exact ih (fun y hy => hb y (List.mem_cons_of_mem _ hy)) x hx
theorem Dom.abs (l : List Int) : Dom l (l.map fun x => (x.natAbs : Int)) := by
  induction l with
  | nil => exact .nil
  | cons a t ih => exact .cons (Int.le_refl _) ih

theorem Dom.syn {c : Int} {C : Nat} (hc : c.natAbs ≤ C) {s t : List Int} (h : Dom s t) : Dom (syn c s) (syn C t) := by
  induction h with
  | nil => exact .nil
  | @cons a b s t h r ih =>
    rw [Go.Proofs.Ytfpliceenjbclaa.syn, Go.Proofs.Ytfpliceenjbclaa.syn]
    refine .cons ?_ ih
    by_cases hs : s = []
    · rw [if_pos hs, if_pos (r.nil_iff.1 hs)]; exact h
    · rw [if_neg hs, if_neg (fun e => hs (r.nil_iff.2 e))]
      have h1 := ih.hd
      have h2 := Int.natAbs_add_le a (c * hd0 (Go.Proofs.Ytfpliceenjbclaa.syn c s))
      rw [Int.natAbs_mul] at h2
      have h3 : (c.natAbs * (hd0 (Go.Proofs.Ytfpliceenjbclaa.syn c s)).natAbs : Nat) ≤ C * (hd0 (Go.Proofs.Ytfpliceenjbclaa.syn c s)).natAbs := Nat.mul_le_mul_right _ hc
      have h4 : (C : Int) * ((hd0 (Go.Proofs.Ytfpliceenjbclaa.syn c s)).natAbs : Int) ≤ C * hd0 (Go.Proofs.Ytfpliceenjbclaa.syn C t) := Int.mul_le_mul_of_nonneg_left h1 (by omega)
      rw [← Int.natCast_mul] at h4
      omega

theorem Dom.grow {C : Nat} {s t : List Int} (h : Dom s t) : Dom s (Go.Proofs.Ytfpliceenjbclaa.syn C t) := by
  induction h with
  | nil => exact .nil
  | @cons a b s t h r ih =>
    rw [Go.Proofs.Ytfpliceenjbclaa.syn]
    refine .cons ?_ ih
    split
    · exact h
    · have h1 := ih.hd
      have h2 : 0 ≤ (C : Int) * hd0 (Go.Proofs.Ytfpliceenjbclaa.syn C t) := Int.mul_nonneg (by omega) (by omega)
      omega

theorem Dom.pass {c : Int} {C : Nat} (hc : c.natAbs ≤ C) (k : Nat) {s t : List Int} (h : Dom s t) : Dom (pass c k s) (pass C k t) :=
  (h.take k).append ((h.drop k).syn hc)
theorem Dom.passGrow {C : Nat} (k : Nat) {s t : List Int} (h : Dom s t) : Dom s (Go.Proofs.Ytfpliceenjbclaa.pass C k t) := by
  have := (h.take k).append ((h.drop k).grow (C := C))
  rwa [List.take_append_drop] at this
theorem Dom.st {c : Int} {C : Nat} (hc : c.natAbs ≤ C) {s t : List Int} (h : Dom s t) : ∀ k, Dom (st c s k) (st C t k)
  | 0 => h
  | k + 1 => (Dom.st hc h k).pass hc k
theorem Dom.stGrow {C : Nat} {s t : List Int} {k : Nat} (h : Dom s (Go.Proofs.Ytfpliceenjbclaa.st C t k)) : ∀ j, Dom s (Go.Proofs.Ytfpliceenjbclaa.st C t (k + j))
  | 0 => h
  | j + 1 => (Dom.stGrow h j).passGrow (k + j)

/-- what the shift holds on its way is no larger than in the end -/
theorem st_close {c : Int} {C M : Nat} (hc : c.natAbs ≤ C) (hC : 1 ≤ C) (l : List Int) (hl : ∀ x ∈ l, x.natAbs ≤ M) (k : Nat) (hk : k ≤ l.length) : ∀ x ∈ st c l k, x.natAbs ≤ M * (C + 2) ^ l.length := by
  rcases hn : l.length with _ | n
  · have : l = [] := List.eq_nil_of_length_eq_zero hn
    subst this
    have e : k = 0 := by simpa using hk
    subst e
    intro x hx
    cases hx
  · have hL : (l.map fun x => (x.natAbs : Int)).length = n + 1 := by simp [hn]
    have h1 := ((Dom.abs l).st hc k).stGrow (n + 1 - k)
    rw [show k + (n + 1 - k) = n + 1 by omega, Go.Proofs.Ytfpliceenjbclaa.st, pass_last _ _ n (by rw [st_length, hL]), st_hsh _ _ n hL] at h1
    have h2 := h1.le (hsh_bound (c := (C : Int)) (C := C) (M := M) (by omega) hC _ (fun x hx => by
      obtain ⟨y, hy, rfl⟩ := List.mem_map.1 hx
      have := hl y hy
      omega))
    rwa [hL] at h2

theorem shok_close {c : Int} {C M n : Nat} (hc : c.natAbs ≤ C) (hC : 1 ≤ C) (l : List Int) (hn : l.length ≤ n) (hl : ∀ x ∈ l, x.natAbs ≤ M) (h1 : C < BB ^ 40) (h2 : M * (C + 2) ^ n * (C + 1) ^ n < BB ^ 40) : ShOK c l := by
  refine ⟨Nat.lt_of_le_of_lt hc h1, fun k j i hk => ?_⟩
  have hs : ∀ x ∈ st c l k, x.natAbs ≤ M * (C + 2) ^ n := fun x hx => Nat.le_trans (st_close hc hC l hl k hk x hx) (Nat.mul_le_mul_left _ (Nat.pow_le_pow_right (by omega) hn))
  have hb := pass_bound (n := n) hc j (st c l k) (by rw [st_length]; exact hn) hs
  exact Nat.lt_of_le_of_lt (tiny_of hb i) h2
end Go.Proofs.Ytfpliceenjbclaa

/- Plain: a root p / d of f is below the program's Cauchy number; if it is not 0, above the program's Lower. -/
namespace Go.Proofs.Ytfpliceenjbclaa
open Go.RowKit

theorem cst_ge (p : List Int) {L : Nat} (hL : 0 < L) : ∀ n k, k < n → (p.getD k 0).natAbs ≤ L * cst p L n := by
  intro n
  induction n with
  | zero => intro k hk; omega
  | succ n ih =>
    intro k hk
    rw [cst]
    rcases Nat.lt_or_ge k n with h | h
    · exact Nat.le_trans (ih k h) (Nat.mul_le_mul_left _ (Nat.le_max_left _ _))
    · have e : k = n := by omega
      subst e
      refine Nat.le_trans ?_ (Nat.mul_le_mul_left _ (Nat.le_max_right _ _))
      have h1 := Nat.div_add_mod ((p.getD k 0).natAbs + L - 1) L
      have h2 := Nat.mod_lt ((p.getD k 0).natAbs + L - 1) hL
      omega

/-- a root of a polynomial in normal form is below Cauchy's number -/
theorem root_cau {p d : Int} {f : List Int} (hd : d ≠ 0) (h1 : 1 ≤ plen f) (hl : f.length = plen f) (h0 : hom p d f = 0) : p.natAbs < rcau f * d.natAbs := by
  have hne : plead f ≠ 0 := plead_ne (by omega)
  have hs0 := hom_hs p d f (plen f - 1) (by omega)
  rw [h0] at hs0
  have hb := cauchy_root p d f (plen f - 1) ((plead f).natAbs * cst f (plead f).natAbs (plen f - 1)) (cst f (plead f).natAbs (plen f - 1)) hs0.symm
    (fun k hk => cst_ge f (by omega) _ k hk) hne (Nat.le_refl _) hd
  unfold rcau
  by_cases h2 : plen f < 2
  · exfalso
    have e : plen f - 1 = 0 := by omega
    rw [e] at hs0
    simp only [hs, Int.pow_zero, Int.mul_one, Int.zero_add, Nat.sub_self] at hs0
    unfold plead at hne
    rw [e] at hne
    exact hne hs0.symm
  · rw [if_neg h2]; exact hb

/-- a root other than 0 is above Lower -/
theorem root_low {p d : Int} {f : List Int} (hp : p ≠ 0) (h1 : 1 ≤ plen f) (hl : f.length = plen f) (h0 : hom p d f = 0) : d.natAbs < rcau (prv f) * p.natAbs := by
  have hf : ptrim f = f := by rw [ptrim, ← hl]; exact List.take_length
  have hz := ptrim_zeros f.reverse
  have hr : prv f = ptrim f.reverse := by rw [prv, hf]
  have h2 := rev_root hz h0 hp
  have hpl : plen (ptrim f.reverse) = plen f.reverse := plen_ptrim _
  have hge : 1 ≤ plen f.reverse := by
    rcases Nat.lt_or_ge 0 (plen f.reverse) with h | h
    · exact h
    · exfalso
      have e : ptrim f.reverse = [] := List.eq_nil_of_length_eq_zero (by rw [ptrim_length]; omega)
      rw [e, List.nil_append] at hz
      have hne : plead f ≠ 0 := plead_ne (by omega)
      have hm : plead f ∈ f.reverse := by
        rw [List.mem_reverse]
        unfold plead
        rw [List.getD_eq_getElem?_getD, List.getElem?_eq_getElem (by omega)]
        exact List.getElem_mem _
      rw [hz] at hm
      exact hne (List.eq_of_mem_replicate hm)
  rw [hr]
  exact root_cau hp (by omega) (by rw [ptrim_length, hpl]) h2

/-- a fraction in lowest terms is the fraction -/
theorem red (z : Int) {q : Nat} (hq : 0 < q) : z.tdiv (Nat.gcd z.natAbs q) * (q : Int) = z * ((q / Nat.gcd z.natAbs q : Nat) : Int) ∧ 0 < q / Nat.gcd z.natAbs q := by
  have hg : 0 < Nat.gcd z.natAbs q := Nat.gcd_pos_of_pos_right _ hq
  obtain ⟨b, hb⟩ := Nat.gcd_dvd_right z.natAbs q
  have hz : ((Nat.gcd z.natAbs q : Nat) : Int) ∣ z := Int.dvd_natAbs.1 (Int.natCast_dvd_natCast.2 (Nat.gcd_dvd_left _ _))
  obtain ⟨a, ha⟩ := hz
  generalize Nat.gcd z.natAbs q = g at *
  have hb0 : 0 < b := by
    rcases Nat.eq_zero_or_pos b with h | h
    · subst h; rw [Nat.mul_zero] at hb; omega
    · exact h
  have e1 : q / g = b := by rw [hb]; exact Nat.mul_div_cancel_left _ hg
  have e2 : z.tdiv g = a := by rw [ha]; exact Int.mul_tdiv_cancel_left _ (by omega)
  rw [e1, e2]
  refine ⟨?_, hb0⟩
  rw [hb, ha, Int.natCast_mul]
  grind

/-- the product of the line with a polynomial other than 0: in normal form, with the root p / e -/
theorem prod_line (p : Int) {e : Int} (he : e ≠ 0) {g : List Int} (hg : 1 ≤ plen g) :
    plen (pmul [-p, e] (ptrim g)) = plen g + 1 ∧ (pmul [-p, e] (ptrim g)).length = plen g + 1 ∧ hom p e (pmul [-p, e] (ptrim g)) = 0 := by
  have hl := ptrim_length g
  have hL : (pmul [-p, e] (ptrim g)).length = plen g + 1 := by rw [pmul_length, hl]; simp; omega
  refine ⟨?_, hL, ?_⟩
  · refine plen_eq _ _ (Nat.le_trans (plen_le _) (Nat.le_of_eq hL)) ?_
    rw [line_zero p e (ptrim g) (plen g) (by omega), if_neg (by omega), getD_out (ptrim g) (j := plen g) (by omega)]
    have h := plen_lead (ptrim g) (plen g - 1) (by rw [plen_ptrim]; omega)
    rw [Int.mul_zero, Int.sub_zero]
    exact Int.mul_ne_zero he h
  · rw [hom_hs p e _ (ptrim g).length (by rw [hL, hl]), line_root]

theorem prod_tiny {p e : Int} {a m : Nat} {g : List Int} (hp : p.natAbs ≤ a) (he : e.natAbs ≤ a) (hg : Tiny m g) : Tiny (2 * (a * m)) (pmul [-p, e] g) := by
  intro k
  have pr : ∀ {x y : Int}, x.natAbs ≤ a → y.natAbs ≤ m → (x * y).natAbs ≤ a * m := fun {x y} h1 h2 => by rw [Int.natAbs_mul]; exact Nat.mul_le_mul h1 h2
  rcases Nat.lt_or_ge k (g.length + 1) with h | h
  · rw [line_zero p e g k h]
    split
    · have := pr (x := -p) (by rw [Int.natAbs_neg]; exact hp) (hg 0)
      omega
    · have h1 := pr he (hg (k - 1))
      have h2 := pr hp (hg k)
      omega
  · rw [getD_out _ (by rw [pmul_length]; simp; omega)]; simp
end Go.Proofs.Ytfpliceenjbclaa

/- RootboundHolds: Laguerre at the law's polynomial. -/
namespace Go.Proofs.Ytfpliceenjbclaa
open Go.RowKit

theorem pow24 (j : Nat) (h : j ≤ 24) : ((2 : Int) ^ j).natAbs ≤ 16777216 := by
  have e : (2 : Int) ^ j = ((2 ^ j : Nat) : Int) := by simp
  have h5 : 2 ^ j ≤ 2 ^ 24 := Nat.pow_le_pow_right (by omega) h
  rw [e, Int.natAbs_natCast]
  omega

theorem hol_shok {f : List Int} (ht : Tiny 10240000 f) (hl : f.length ≤ 9) (j : Nat) (hj : j ≤ 24) : ShOK (2 ^ j) (ptrim f) := by
  refine shok_close (C := 16777216) (M := 10240000) (n := 9) (pow24 j hj) (by omega) _ (by have := plen_le f; have := ptrim_length f; omega) ht.trim.mem (by rw [BB_eq]; decide) (by rw [BB_eq]; decide)

theorem hol_smp {f : List Int} (ht : Tiny 10240000 f) (hl : f.length ≤ 9) (j : Nat) (hj : j ≤ 24) : SmP (hsh (2 ^ j) (ptrim f)) := by
  intro x hx
  have h := hsh_bound (C := 16777216) (M := 10240000) (pow24 j hj) (by omega) (ptrim f) ht.trim.mem x hx
  have hl2 : (ptrim f).length ≤ 9 := by have := plen_le f; have := ptrim_length f; omega
  refine sm_pow (k := 40) (Nat.lt_of_le_of_lt (Nat.le_trans h (Nat.mul_le_mul_left _ (Nat.pow_le_pow_right (by omega) hl2))) (by rw [BB_eq]; decide)) (by omega)

/-- the call has returned an exponent k for which no root p / d is above 2 ^ k -/
def LagE (p d : Int) (e : Ending) : Prop := ∃ k : Nat, e = .returned (.int .i64 (k : Int)) ∧ k ≤ 24 ∧ p ≤ 2 ^ k * d

theorem hsh_nz {c : Int} {f : List Int} (hV : f ≠ []) (hne : f.getD (f.length - 1) 0 ≠ 0) : ∃ x ∈ hsh c f, x ≠ 0 := by
  refine Classical.byContradiction fun hn => ?_
  have hz : hsh c f = List.replicate f.length 0 := by
    rw [List.eq_replicate_iff]
    exact ⟨hsh_length c f, fun x hx => Classical.byContradiction fun h => hn ⟨x, hx, h⟩⟩
  have key : ∀ (l : List Int), hsh c l = List.replicate l.length 0 → ∀ x ∈ l, x = 0 := by
    intro l
    induction l with
    | nil => intro _ x hx; cases hx
    | cons a t ih =>
      intro h
      rw [hsh] at h
      have mz : ∀ (y : List Int) (s : Int), mulX c s y = List.replicate (y.length + 1) 0 → s = 0 ∧ y = List.replicate y.length 0 := by
        intro y
        induction y with
        | nil => intro s h; simp [mulX] at h; exact ⟨h, rfl⟩
        | cons b y ih =>
          intro s h
          rw [mulX, List.length_cons, List.replicate_succ] at h
          obtain ⟨h1, h2⟩ := List.cons.inj h
          obtain ⟨h3, h4⟩ := ih b h2
          subst h3
          refine ⟨by simpa using h1, ?_⟩
          rw [List.length_cons, List.replicate_succ, ← h4]
      have hy := mz (hsh c t) a (by rw [hsh_length]; exact h)
      have ht := ih (by have := hy.2; rwa [hsh_length] at this)
      intro x hx
      rcases List.mem_cons.1 hx with rfl | hx
      · exact hy.1
      · exact ht x hx
  refine hne (key f hz _ ?_)
  have hl : 0 < f.length := List.length_pos_iff.2 hV
  rw [List.getD_eq_getElem?_getD, List.getElem?_eq_getElem (by omega)]
  exact List.getElem_mem _

theorem hol_lag (A : Option Addr) (len cap : Nat) (f : List Int) (w : World) (h : PolyN w A len cap f) (ht : Tiny 10240000 f) (hl : f.length ≤ 9) (h2 : 2 ≤ plen f) (hm : len ≤ 1000000) {p d : Int} (hd : 0 < d) (h0 : hom p d (ptrim f) = 0) :
    Calls Try.prog 29 #[.slice A len cap] w fun e w' => LagE p d e ∧ Below w.heap.size w w' := by
  obtain ⟨k, hk, hz, hmin⟩ := least (P := fun k => VV (hsh (2 ^ k) (ptrim f)) = 0) 24 (VV_big (m := 10240000) ht (by decide) (by omega))
  refine (plag_any A len cap f k w h (ht.smp (by omega)) hm h2 (by omega) hz hmin (fun j hj => hol_shok ht hl j (by omega)) (fun j hj => hol_smp ht hl j (by omega))).mono ?_
  rintro e w' ⟨rfl, hb⟩
  have hlen := ptrim_length f
  have hne : (ptrim f).getD ((ptrim f).length - 1) 0 ≠ 0 := plen_lead (ptrim f) _ (by rw [plen_ptrim]; omega)
  exact ⟨⟨k, rfl, hk, laguerre_root hd hz h0 (hsh_nz (by intro e; rw [e] at hlen; simp at hlen; omega) hne)⟩, hb⟩
end Go.Proofs.Ytfpliceenjbclaa

/- RootboundHolds: the law's root and its absolute value, as fractions in lowest terms. -/
namespace Go.Proofs.Ytfpliceenjbclaa
open Go.RowKit

theorem ld_ne (d : Int) : ld d ≠ 0 := by
  unfold ld
  split
  · omega
  · assumption

theorem sg_abs {e : Int} (he : e ≠ 0) : (sg e).natAbs = 1 ∧ sg e * e = (e.natAbs : Int) := by
  rcases Int.lt_or_lt_of_ne he with h | h
  · rw [sg_neg h]; omega
  · rw [sg_pos h]; omega

theorem rt_ratio (p d : Int) : rtn p d * ((ld d).natAbs : Int) = sg (ld d) * p * (rtd p d : Int) ∧ 0 < rtd p d ∧ rtd p d ≤ (ld d).natAbs ∧ (rtn p d).natAbs ≤ p.natAbs := by
  have he := ld_ne d
  have hs := (sg_abs he).1
  have ha : (sg (ld d) * p).natAbs = p.natAbs := by rw [Int.natAbs_mul, hs, Nat.one_mul]
  have h := red (sg (ld d) * p) (q := (ld d).natAbs) (by omega)
  rw [ha] at h
  refine ⟨h.1, h.2, Nat.div_le_self _ _, ?_⟩
  unfold rtn
  rw [Int.natAbs_tdiv, ha, Int.natAbs_natCast]
  exact Nat.div_le_self _ _

/-- the numerator and the denominator of the root's absolute value -/
def ran (p d : Int) : Int := ((rtn p d).natAbs : Int).tdiv (Nat.gcd (rtn p d).natAbs (rtd p d))
def rad (p d : Int) : Nat := rtd p d / Nat.gcd (rtn p d).natAbs (rtd p d)

theorem ra_ratio (p d : Int) : ran p d * ((ld d).natAbs : Int) = (p.natAbs : Int) * (rad p d : Int) ∧ 0 < rad p d ∧ 0 ≤ ran p d ∧ rad p d ≤ (ld d).natAbs ∧ (ran p d).natAbs ≤ p.natAbs := by
  obtain ⟨h1, h2, h3, h4⟩ := rt_ratio p d
  have h := red ((rtn p d).natAbs : Int) (q := rtd p d) h2
  rw [Int.natAbs_natCast] at h
  have e1 := congrArg Int.natAbs h1
  rw [Int.natAbs_mul, Int.natAbs_mul, Int.natAbs_mul, (sg_abs (ld_ne d)).1, Nat.one_mul, Int.natAbs_natCast, Int.natAbs_natCast] at e1
  have hb : (ran p d).natAbs ≤ p.natAbs := by
    unfold ran
    rw [Int.natAbs_tdiv, Int.natAbs_natCast, Int.natAbs_natCast]
    exact Nat.le_trans (Nat.div_le_self _ _) h4
  have hnn : 0 ≤ ran p d := Int.tdiv_nonneg (Int.natCast_nonneg _) (Int.natCast_nonneg _)
  have hr : rad p d ≤ (ld d).natAbs := Nat.le_trans (Nat.div_le_self _ _) h3
  refine ⟨?_, h.2, hnn, hr, hb⟩
  have k1 : ran p d * (rtd p d : Int) = ((rtn p d).natAbs : Int) * (rad p d : Int) := h.1
  have e2 : ((rtn p d).natAbs : Int) * ((ld d).natAbs : Int) = (p.natAbs : Int) * (rtd p d : Int) := by rw [← Int.natCast_mul, ← Int.natCast_mul, e1]
  have hne : (rtd p d : Int) ≠ 0 := by omega
  refine Int.eq_of_mul_eq_mul_right hne ?_
  generalize ((rtn p d).natAbs : Int) = u at *
  generalize ((ld d).natAbs : Int) = v at *
  generalize (rtd p d : Int) = x at *
  generalize (rad p d : Int) = y at *
  generalize (p.natAbs : Int) = z at *
  generalize ran p d = t at *
  calc t * v * x = (t * x) * v := by grind
    _ = u * y * v := by rw [k1]
    _ = (u * v) * y := by grind
    _ = z * x * y := by rw [e2]
    _ = z * y * x := by grind

theorem hom_scale (s p d : Int) (l : List Int) : hom (s * p) (s * d) l * s = s ^ l.length * hom p d l := by
  induction l with
  | nil => simp [hom]
  | cons a t ih =>
    rw [hom, hom, List.length_cons, Int.pow_succ, Int.mul_pow, Int.add_mul]
    have e : s * p * hom (s * p) (s * d) t * s = s * p * (s ^ t.length * hom p d t) := by rw [Int.mul_assoc (s * p), ih]
    rw [e]
    generalize s ^ t.length = S
    generalize d ^ t.length = D
    generalize hom p d t = H
    grind

/-- the root with a positive denominator -/
theorem hom_sg {p e : Int} (he : e ≠ 0) {l : List Int} (h : hom p e l = 0) : hom (sg e * p) (e.natAbs : Int) l = 0 := by
  obtain ⟨h1, h2⟩ := sg_abs he
  have h3 := hom_scale (sg e) p e l
  rw [h, Int.mul_zero, h2] at h3
  rcases Int.mul_eq_zero.1 h3 with h4 | h4
  · exact h4
  · omega

theorem cmp_cau {p d : Int} {b : Nat} (h : p.natAbs < b * (ld d).natAbs) : ran p d * 1 < (b : Int) * (rad p d : Int) := by
  obtain ⟨h1, h2, h3, -, -⟩ := ra_ratio p d
  rw [Int.mul_one]
  rcases Int.lt_or_le (ran p d) ((b : Int) * (rad p d : Int)) with h4 | h4
  · exact h4
  · exfalso
    have h5 := Int.mul_le_mul_of_nonneg_right h4 (Int.natCast_nonneg (ld d).natAbs)
    rw [h1] at h5
    have h6 : p.natAbs * rad p d < b * (ld d).natAbs * rad p d := Nat.mul_lt_mul_of_pos_right h h2
    have h7 : (b : Int) * (rad p d : Int) * ((ld d).natAbs : Int) = ((b * (ld d).natAbs * rad p d : Nat) : Int) := by rw [Int.natCast_mul, Int.natCast_mul]; grind
    rw [h7, ← Int.natCast_mul] at h5
    omega

theorem cmp_lag {p d : Int} {k : Nat} (h : sg (ld d) * p ≤ 2 ^ k * ((ld d).natAbs : Int)) : rtn p d * 1 ≤ 2 ^ k * (rtd p d : Int) := by
  obtain ⟨h1, h2, -, -⟩ := rt_ratio p d
  have he := ld_ne d
  rw [Int.mul_one]
  refine Int.le_of_mul_le_mul_right (a := ((ld d).natAbs : Int)) ?_ (by omega)
  rw [h1]
  have := Int.mul_le_mul_of_nonneg_right h (Int.natCast_nonneg (rtd p d))
  generalize ((2 : Int) ^ k) = K at *
  generalize ((ld d).natAbs : Int) = x at *
  generalize (rtd p d : Int) = y at *
  calc sg (ld d) * p * y ≤ K * x * y := this
    _ = K * y * x := by grind

theorem cmp_low {p d : Int} {b : Nat} (h : (ld d).natAbs < b * p.natAbs) : 1 * (rad p d : Int) < ran p d * (b : Int) := by
  obtain ⟨h1, h2, h3, -, -⟩ := ra_ratio p d
  have he := ld_ne d
  rw [Int.one_mul]
  refine Int.lt_of_mul_lt_mul_right (a := ((ld d).natAbs : Int)) ?_ (by omega)
  have h6 : (ld d).natAbs * rad p d < b * p.natAbs * rad p d := Nat.mul_lt_mul_of_pos_right h h2
  have e1 : ran p d * (b : Int) * ((ld d).natAbs : Int) = ((b * p.natAbs * rad p d : Nat) : Int) := by
    rw [Int.natCast_mul, Int.natCast_mul, show ran p d * (b : Int) * ((ld d).natAbs : Int) = (b : Int) * (ran p d * ((ld d).natAbs : Int)) by grind, h1]
    grind
  rw [e1, ← Int.natCast_mul]
  rw [Nat.mul_comm] at h6
  omega
end Go.Proofs.Ytfpliceenjbclaa

/- RootboundHolds: the law's polynomial. -/
namespace Go.Proofs.Ytfpliceenjbclaa
open Go.RowKit

/-- what the law's polynomial is, where it is not 0 -/
structure HolF (p d : Int) (f : List Int) : Prop where
  len : f.length = plen f
  two : 2 ≤ plen f
  le : f.length ≤ 9
  tiny : Tiny 10240000 f
  root : hom p (ld d) f = 0

theorem lin_trim (p d : Int) : ptrim (lin p d) = [-p, ld d] := by
  have h : plen (lin p d) = 2 := plen_eq _ 1 (plen_le _) (by show ld d ≠ 0; exact ld_ne d)
  rw [ptrim, h]; rfl

theorem hol_zero {p d : Int} {g : List Int} (h : plen g = 0) : polymul (ptrim (lin p d)) (ptrim g) = [] := by
  unfold polymul
  rw [if_pos]
  exact .inr (List.eq_nil_of_length_eq_zero (by rw [ptrim_length, h]))

theorem hol_f {p d : Int} (hp : I8 p) (hd : I8 d) {g : List Int} (ht : Tiny 40000 g) (hl : g.length ≤ 8) (h : 1 ≤ plen g) : HolF p d (polymul (ptrim (lin p d)) (ptrim g)) := by
  have hg := ptrim_length g
  have hpl := plen_le g
  have e : polymul (ptrim (lin p d)) (ptrim g) = pmul [-p, ld d] (ptrim g) := by
    unfold polymul
    rw [if_neg, lin_trim]
    rintro (e | e)
    · rw [lin_trim] at e; cases e
    · rw [e] at hg; simp at hg; omega
  rw [e]
  obtain ⟨h1, h2, h3⟩ := prod_line p (ld_ne d) h
  have hld : (ld d).natAbs ≤ 128 := by unfold I8 at hd; unfold ld; split <;> omega
  have h4 := prod_tiny (a := 128) (m := 40000) (p := p) (e := ld d) (g := ptrim g) (by unfold I8 at hp; omega) hld ht.trim
  exact ⟨by omega, by omega, by omega, h4, h3⟩
end Go.Proofs.Ytfpliceenjbclaa

/- RootboundHolds: the comparisons of the law, as the walk meets them. Plain. -/
namespace Go.Proofs.Ytfpliceenjbclaa
open Go.RowKit

theorem cmpz_lt {a b : Int} (h : a < b) : cmpz a b = -1 := if_pos h
theorem cmpz_gt {a b : Int} (h : b < a) : cmpz a b = 1 := by unfold cmpz; rw [if_neg (by omega), if_neg (by omega)]
theorem cmpz_le {a b : Int} (h : a ≤ b) : ¬ 0 < cmpz a b := by unfold cmpz; split <;> (try split) <;> omega

theorem ptrim_full {f : List Int} (h : f.length = plen f) : ptrim f = f := by rw [ptrim, ← h, List.take_length]

section
variable {p d : Int} {f : List Int}
theorem HolF.cau (h : HolF p d f) : p.natAbs < rcau f * (ld d).natAbs := root_cau (ld_ne d) (by have := h.two; omega) h.len h.root
theorem HolF.cau_le (h : HolF p d f) : rcau f ≤ 20480001 := by have := rcau_tiny h.tiny; omega
theorem HolF.c1 (h : HolF p d f) : cmpz (ran p d * ((1 : Nat) : Int)) ((rcau f : Nat) * (rad p d : Int)) = -1 := cmpz_lt (cmp_cau h.cau)
theorem HolF.log_le (h : HolF p d f) {k : Nat} (hk : LG (rcau f) k) : k ≤ 25 := by
  rcases Nat.lt_or_ge 25 k with h1 | h1
  · have h2 := hk.least 25 h1
    have := h.cau_le
    omega
  · exact h1
theorem pow_cast (k : Nat) : (2 : Int) ^ k = ((2 ^ k : Nat) : Int) := by simp
theorem HolF.c2 (h : HolF p d f) {k : Nat} (hk : LG (rcau f) k) : cmpz (ran p d * ((1 : Nat) : Int)) (2 ^ k * (rad p d : Int)) = -1 := by
  rw [pow_cast]
  refine cmpz_lt (cmp_cau (Nat.lt_of_lt_of_le h.cau (Nat.mul_le_mul_right _ hk.le)))
theorem hol_c3 {k : Nat} (h : sg (ld d) * p ≤ 2 ^ k * ((ld d).natAbs : Int)) : ¬ 0 < cmpz (rtn p d * ((1 : Nat) : Int)) (2 ^ k * (rtd p d : Int)) := cmpz_le (cmp_lag h)
theorem pow_small {k : Nat} (h : k ≤ 25) : ((2 : Int) ^ k).natAbs ≤ 33554432 := by
  have h5 : 2 ^ k ≤ 2 ^ 25 := Nat.pow_le_pow_right (by omega) h
  rw [pow_cast, Int.natAbs_natCast]
  omega
theorem HolF.low_pos (h : HolF p d f) (h0 : p ≠ 0) : (ld d).natAbs < rcau (prv f) * p.natAbs := root_low h0 (by have := h.two; omega) h.len h.root
theorem HolF.low_ne (h : HolF p d f) (h0 : p ≠ 0) : rcau (prv f) ≠ 0 := by
  have := h.low_pos h0
  intro e
  rw [e] at this
  omega
theorem HolF.low_le (h : HolF p d f) : rcau (prv f) ≤ 20480001 := by have := rcau_tiny h.tiny.prv; omega
theorem HolF.lz (h : HolF p d f) (h0 : p ≠ 0) : lowz f = 1 := if_neg (h.low_ne h0)
theorem HolF.lq (h : HolF p d f) (h0 : p ≠ 0) : lowq f = rcau (prv f) := if_neg (h.low_ne h0)
theorem HolF.c4 (h : HolF p d f) (h0 : p ≠ 0) : cmpz (ran p d * (rcau (prv f) : Int)) (1 * (rad p d : Int)) = 1 := cmpz_gt (cmp_low (h.low_pos h0))
theorem rtn_zero {d : Int} : rtn 0 d = 0 := by unfold rtn; simp
theorem rtn_ne {p d : Int} (h0 : p ≠ 0) : rtn p d ≠ 0 := by
  obtain ⟨h1, h2, -, -⟩ := rt_ratio p d
  intro e
  rw [e, Int.zero_mul] at h1
  rcases Int.mul_eq_zero.1 h1.symm with h3 | h3
  · rcases Int.mul_eq_zero.1 h3 with h4 | h4
    · have := (sg_abs (ld_ne d)).1; rw [h4] at this; omega
    · exact h0 h4
  · omega
theorem sg_zero_beq {z : Int} : (sg z == 0) = decide (z = 0) := by
  rcases sg_cases z with ⟨h1, h2⟩ | ⟨h1, h2⟩ | ⟨h1, h2⟩ <;> rw [h2] <;> simp <;> omega
end
end Go.Proofs.Ytfpliceenjbclaa
