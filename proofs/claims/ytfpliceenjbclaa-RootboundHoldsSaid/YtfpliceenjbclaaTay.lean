/- The shift of a polynomial, f(x + c): Horner's scheme from the top (the reference) and the triangle of sums (the program). Plain Lean, no program. -/
namespace Go.Proofs.Ytfpliceenjbclaa

/-- the first coefficient, 0 for none -/
def hd0 : List Int → Int
  | [] => 0
  | a :: _ => a

/-- c times the list, with the list one place higher: (x + c) * y, where y's first coefficient has been given its share s -/
def mulX (c : Int) : Int → List Int → List Int
  | s, [] => [s]
  | s, b :: y => (s + c * b) :: mulX c b y

/-- f(x + c) by Horner's scheme -/
def hsh (c : Int) : List Int → List Int
  | [] => []
  | a :: t => mulX c a (hsh c t)

theorem mulX_length (c : Int) : ∀ (y : List Int) (s : Int), (mulX c s y).length = y.length + 1 := by
  intro y
  induction y with
  | nil => intro s; rfl
  | cons b y ih => intro s; simp [mulX, ih]
theorem hsh_length (c : Int) (f : List Int) : (hsh c f).length = f.length := by
  induction f with
  | nil => rfl
  | cons a t ih => simp [hsh, mulX_length, ih]

/-- one pass of the triangle -/
def syn (c : Int) : List Int → List Int
  | [] => []
  | a :: t => (if t = [] then a else a + c * hd0 (syn c t)) :: syn c t
theorem syn_length (c : Int) (f : List Int) : (syn c f).length = f.length := by
  induction f with
  | nil => rfl
  | cons a t ih => simp [syn, ih]

/-- f(x + c) = f(c) + x * q(x + c), where f(c), q's coefficients are the pass over f -/
theorem hsh_syn (c : Int) : ∀ f : List Int, f ≠ [] → hsh c f = hd0 (syn c f) :: hsh c (syn c f).tail := by
  intro f
  induction f with
  | nil => intro h; exact absurd rfl h
  | cons a t ih =>
    intro _
    by_cases ht : t = []
    · subst ht; rfl
    · have h1 := ih ht
      rw [hsh, h1]
      simp only [syn, if_neg ht, hd0, List.tail_cons, mulX]
      congr 1
      have h2 : syn c t ≠ [] := by
        intro e
        have := syn_length c t
        rw [e] at this
        exact ht (List.eq_nil_of_length_eq_zero (by simpa using this.symm))
      generalize syn c t = u at h2 ⊢
      cases u with
      | nil => exact absurd rfl h2
      | cons h q => rfl

/-- the pass over the tail from place low on -/
def pass (c : Int) (low : Nat) (l : List Int) : List Int := l.take low ++ syn c (l.drop low)
theorem pass_length (c : Int) (low : Nat) (l : List Int) : (pass c low l).length = l.length := by
  simp [pass, syn_length]; omega

/-- the list after k passes -/
def st (c : Int) (l : List Int) : Nat → List Int
  | 0 => l
  | k + 1 => pass c k (st c l k)
theorem st_length (c : Int) (l : List Int) (k : Nat) : (st c l k).length = l.length := by
  induction k with
  | zero => rfl
  | succ k ih => rw [st, pass_length, ih]

theorem st_inv (c : Int) (l : List Int) : ∀ k, k < l.length → hsh c l = (st c l k).take k ++ hsh c ((st c l k).drop k) := by
  intro k
  induction k with
  | zero => intro _; simp [st]
  | succ k ih =>
    intro h
    rw [ih (by omega), st]
    have hm := st_length c l k
    generalize st c l k = m at hm
    have hd : (m.drop k).length = l.length - k := by rw [List.length_drop, hm]
    have hne : m.drop k ≠ [] := by
      intro e
      rw [e] at hd
      simp at hd
      omega
    rw [hsh_syn c _ hne]
    have hs := syn_length c (m.drop k)
    generalize hu : syn c (m.drop k) = u at hs
    have hp : pass c k m = m.take k ++ u := by rw [pass, hu]
    have hl : (m.take k).length = k := by rw [List.length_take]; omega
    cases u with
    | nil => simp at hs; omega
    | cons h1 q =>
      rw [hp, List.take_append, List.drop_append, hl]
      simp [show k + 1 - k = 1 by omega, List.take_of_length_le, List.drop_eq_nil_of_le, hl, hd0]

theorem st_hsh (c : Int) (l : List Int) (n : Nat) (hn : l.length = n + 1) : st c l n = hsh c l := by
  rw [st_inv c l n (by omega)]
  have h1 := st_length c l n
  have h2 : ((st c l n).drop n).length = 1 := by rw [List.length_drop, h1]; omega
  have h3 : hsh c ((st c l n).drop n) = (st c l n).drop n := by
    generalize (st c l n).drop n = d at h2
    match d, h2 with
    | [a], _ => rfl
  rw [h3, List.take_append_drop]

theorem pass_last (c : Int) (l : List Int) (n : Nat) (hn : l.length = n + 1) : pass c n l = l := by
  have h2 : (l.drop n).length = 1 := by rw [List.length_drop]; omega
  have h3 : syn c (l.drop n) = l.drop n := by
    generalize l.drop n = d at h2
    match d, h2 with
    | [a], _ => rfl
  rw [pass, h3, List.take_append_drop]

theorem drop_cons_getD (l : List Int) {j : Nat} (h : j < l.length) : l.drop j = l.getD j 0 :: l.drop (j + 1) := by
  rw [List.drop_eq_getElem_cons h, List.getD_eq_getElem?_getD, List.getElem?_eq_getElem h]; rfl

theorem pass_get (c : Int) (l : List Int) {j : Nat} (h : j + 1 < l.length) : (pass c (j + 1) l).getD j 0 = l.getD j 0 ∧ (pass c (j + 1) l).getD (j + 1) 0 = hd0 (syn c (l.drop (j + 1))) := by
  have hl : (l.take (j + 1)).length = j + 1 := by rw [List.length_take]; omega
  constructor
  · rw [pass, List.getD_eq_getElem?_getD, List.getElem?_append_left (by omega), List.getElem?_take_of_lt (by omega), List.getD_eq_getElem?_getD]
  · rw [pass, List.getD_eq_getElem?_getD, List.getElem?_append_right (by omega), hl, Nat.sub_self]
    cases syn c (l.drop (j + 1)) <;> rfl

theorem pass_step (c : Int) (l : List Int) {j : Nat} (h : j + 1 < l.length) :
    (pass c (j + 1) l).set j ((pass c (j + 1) l).getD j 0 + c * (pass c (j + 1) l).getD (j + 1) 0) = pass c j l := by
  obtain ⟨h1, h2⟩ := pass_get c l h
  rw [h1, h2]
  have hl : (l.take (j + 1)).length = j + 1 := by rw [List.length_take]; omega
  have e1 : l.take (j + 1) = l.take j ++ [l.getD j 0] := by
    rw [List.take_succ_eq_append_getElem (by omega), List.getD_eq_getElem?_getD, List.getElem?_eq_getElem (by omega)]; rfl
  have hl2 : (l.take j).length = j := by rw [List.length_take]; omega
  have hne : l.drop (j + 1) ≠ [] := by
    intro e
    have := congrArg List.length e
    rw [List.length_drop] at this
    simp at this
    omega
  rw [pass, pass, drop_cons_getD l (show j < l.length by omega), syn, if_neg hne, e1, List.append_assoc, List.set_append_right _ _ (by omega), hl2, Nat.sub_self]
  rfl

/-! ### zeros at the upper end -/
theorem mulX_zeros (c s : Int) (y : List Int) (m : Nat) (h : y = [] → m = 0) : mulX c s (y ++ List.replicate m 0) = mulX c s y ++ List.replicate m 0 := by
  induction y generalizing s with
  | nil =>
    rw [h rfl]; simp
  | cons b y ih =>
    by_cases hy : y = []
    · subst hy
      simp only [List.cons_append, List.nil_append, mulX]
      congr 1
      clear ih h
      induction m generalizing b with
      | zero => rfl
      | succ m ihm =>
        rw [List.replicate_succ, mulX, ihm 0]
        simp
    · simp only [List.cons_append, mulX]
      rw [ih b (fun e => absurd e hy)]
theorem mulX_zero_zeros (c : Int) (m : Nat) : mulX c 0 (List.replicate m 0) = List.replicate (m + 1) 0 := by
  induction m with
  | zero => rfl
  | succ m ih => rw [List.replicate_succ, mulX, ih]; simp [List.replicate_succ]
theorem hsh_replicate (c : Int) (m : Nat) : hsh c (List.replicate m 0) = List.replicate m 0 := by
  induction m with
  | zero => rfl
  | succ m ih => rw [List.replicate_succ, hsh, ih, mulX_zero_zeros, List.replicate_succ]
theorem mulX_nz (c s : Int) (m : Nat) : mulX c s (List.replicate m 0) = s :: List.replicate m 0 := by
  cases m with
  | zero => rfl
  | succ m => rw [List.replicate_succ, mulX, mulX_zero_zeros]; simp [List.replicate_succ]
theorem hsh_zeros (c : Int) (l : List Int) (m : Nat) : hsh c (l ++ List.replicate m 0) = hsh c l ++ List.replicate m 0 := by
  induction l with
  | nil => simpa [hsh] using hsh_replicate c m
  | cons a t ih =>
    rw [List.cons_append, hsh, ih, hsh]
    by_cases ht : hsh c t = []
    · rw [ht, List.nil_append, mulX_nz]; rfl
    · exact mulX_zeros c a _ m (fun e => absurd e ht)

/-! ### signs and bounds -/
theorem mulX_pos {c : Int} (hc : 0 < c) : ∀ (y : List Int) (s : Int), 0 < s + c * hd0 y → (∀ x ∈ y, 0 < x) → y ≠ [] → ∀ x ∈ mulX c s y, 0 < x := by
  intro y
  induction y with
  | nil => intro s _ _ h; exact absurd rfl h
  | cons b y ih =>
    intro s hs hy _ x hx
    simp only [mulX, List.mem_cons] at hx
    have hb := hy b List.mem_cons_self
    rcases hx with rfl | hx
    · exact hs
    · by_cases hn : y = []
      · subst hn
        simp [mulX] at hx
        omega
      · refine ih b ?_ (fun z hz => hy z (List.mem_cons_of_mem _ hz)) hn x hx
        cases y with
        | nil => exact absurd rfl hn
        | cons d y =>
          have hd := hy d (by simp)
          have := Int.mul_pos hc hd
          simp only [hd0]
          omega

/-- all coefficients of f(x + c) are positive where f's last one is and c is greater than all of them -/
theorem hsh_pos {c : Int} (hc : 0 < c) (l : List Int) (a : Int) (ha : 0 < a) (hl : ∀ x ∈ l, -c < x) : ∀ x ∈ hsh c (l ++ [a]), 0 < x := by
  induction l with
  | nil => intro x hx; simp [hsh, mulX] at hx; omega
  | cons b l ih =>
    have h1 := ih (fun x hx => hl x (List.mem_cons_of_mem _ hx))
    have hne : hsh c (l ++ [a]) ≠ [] := by
      intro e
      have := hsh_length c (l ++ [a])
      rw [e] at this
      simp at this
    refine mulX_pos hc _ _ ?_ h1 hne
    have hb := hl b List.mem_cons_self
    cases hu : hsh c (l ++ [a]) with
    | nil => exact absurd hu hne
    | cons d q =>
      rw [hu] at h1
      have hd := h1 d List.mem_cons_self
      simp only [hd0]
      have : c * 1 ≤ c * d := Int.mul_le_mul_of_nonneg_left (by omega) (by omega)
      omega

theorem mulX_neg (c : Int) : ∀ (y : List Int) (s : Int), mulX c (-s) (y.map (- ·)) = (mulX c s y).map (- ·) := by
  intro y
  induction y with
  | nil => intro s; rfl
  | cons b y ih =>
    intro s
    simp only [List.map_cons, mulX, ih]
    congr 1
    rw [Int.mul_neg]; omega
theorem hsh_neg (c : Int) (l : List Int) : hsh c (l.map (- ·)) = (hsh c l).map (- ·) := by
  induction l with
  | nil => rfl
  | cons a t ih => simp only [List.map_cons, hsh, ih, mulX_neg]

theorem mulX_bound {c : Int} {C B S : Nat} (hc : c.natAbs ≤ C) : ∀ (y : List Int) (s : Int), s.natAbs ≤ S → B ≤ S → (∀ x ∈ y, x.natAbs ≤ B) → ∀ x ∈ mulX c s y, x.natAbs ≤ S + C * B := by
  intro y
  induction y with
  | nil => intro s hs _ _ x hx; simp [mulX] at hx; subst hx; omega
  | cons b y ih =>
    intro s hs hBS hy x hx
    simp only [mulX, List.mem_cons] at hx
    have hb := hy b List.mem_cons_self
    rcases hx with rfl | hx
    · have h1 : (c * b).natAbs ≤ C * B := by rw [Int.natAbs_mul]; exact Nat.mul_le_mul hc hb
      omega
    · exact ih b (by omega) hBS (fun z hz => hy z (List.mem_cons_of_mem _ hz)) x hx

theorem hsh_bound {c : Int} {C M : Nat} (hc : c.natAbs ≤ C) (hC : 1 ≤ C) (l : List Int) (hl : ∀ x ∈ l, x.natAbs ≤ M) : ∀ x ∈ hsh c l, x.natAbs ≤ M * (C + 2) ^ l.length := by
  induction l with
  | nil => intro x hx; cases hx
  | cons a t ih =>
    intro x hx
    have h1 := ih (fun z hz => hl z (List.mem_cons_of_mem _ hz))
    have ha := hl a List.mem_cons_self
    have hp : 1 ≤ (C + 2) ^ t.length := Nat.le_trans Nat.one_le_two_pow (Nat.pow_le_pow_left (by omega) _)
    have hM : M ≤ M * (C + 2) ^ t.length := Nat.le_mul_of_pos_right _ hp
    have h2 := mulX_bound hc (hsh c t) a (S := M + M * (C + 2) ^ t.length) (by omega) (by omega) h1 x hx
    rw [List.length_cons, Nat.pow_succ, ← Nat.mul_assoc, Nat.mul_add]
    have : C * (M * (C + 2) ^ t.length) = M * (C + 2) ^ t.length * C := Nat.mul_comm _ _
    omega
end Go.Proofs.Ytfpliceenjbclaa
