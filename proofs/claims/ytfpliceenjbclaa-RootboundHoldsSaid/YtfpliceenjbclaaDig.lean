/- Lists of digits in base 2^32, least significant first: their value, their normal form, and the laws of the loops over them. Plain Lean, no program. -/
namespace Go.Proofs.Ytfpliceenjbclaa

/-- the base of the digits, kept behind a name that nothing unfolds -/
noncomputable def BB : Nat := Classical.choose (⟨4294967296, rfl⟩ : ∃ n : Nat, n = 4294967296)
theorem BB_eq : BB = 4294967296 := Classical.choose_spec (⟨4294967296, rfl⟩ : ∃ n : Nat, n = 4294967296)
theorem BB_pos : 0 < BB := by rw [BB_eq]; omega

/-- the value of a list of digits -/
noncomputable def val : List Nat → Nat
  | [] => 0
  | d :: ds => d + BB * val ds

/-- all digits are less than the base -/
def Wd (ds : List Nat) : Prop := ∀ d ∈ ds, d < BB

theorem Wd.nil : Wd [] := fun _ h => by cases h
theorem Wd.cons {d : Nat} {ds : List Nat} (h : d < BB) (hs : Wd ds) : Wd (d :: ds) := by
  intro x hx
  cases hx with
  | head => exact h
  | tail _ hx => exact hs x hx
theorem Wd.head {d : Nat} {ds : List Nat} (h : Wd (d :: ds)) : d < BB := h d (List.mem_cons_self)
theorem Wd.tail {d : Nat} {ds : List Nat} (h : Wd (d :: ds)) : Wd ds := fun x hx => h x (List.mem_cons_of_mem _ hx)
theorem Wd.take {ds : List Nat} (h : Wd ds) (k : Nat) : Wd (ds.take k) := fun x hx => h x (List.mem_of_mem_take hx)
theorem Wd.drop {ds : List Nat} (h : Wd ds) (k : Nat) : Wd (ds.drop k) := fun x hx => h x (List.mem_of_mem_drop hx)
theorem Wd.append {a b : List Nat} (ha : Wd a) (hb : Wd b) : Wd (a ++ b) := by
  intro x hx
  rcases List.mem_append.1 hx with h | h
  · exact ha x h
  · exact hb x h
theorem Wd.getD {ds : List Nat} (h : Wd ds) (k : Nat) : ds.getD k 0 < BB := by
  rw [List.getD_eq_getElem?_getD]
  cases e : ds[k]? with
  | none => exact BB_pos
  | some x => exact h x (List.mem_of_getElem? e)
theorem Wd.set {ds : List Nat} (h : Wd ds) {k x : Nat} (hx : x < BB) : Wd (ds.set k x) := by
  intro y hy
  rcases List.mem_or_eq_of_mem_set hy with h1 | h1
  · exact h y h1
  · rw [h1]; exact hx
theorem Wd.replicate (n : Nat) : Wd (List.replicate n 0) := by
  intro x hx
  rw [(List.mem_replicate.1 hx).2]; exact BB_pos

theorem val_append (a b : List Nat) : val (a ++ b) = val a + BB ^ a.length * val b := by
  induction a with
  | nil => simp [val]
  | cons d a ih =>
    simp only [List.cons_append, val, ih, List.length_cons, Nat.pow_succ]
    rw [Nat.mul_add, ← Nat.mul_assoc, Nat.mul_comm BB (BB ^ a.length), Nat.add_assoc]

theorem val_replicate (n : Nat) : val (List.replicate n 0) = 0 := by
  induction n with
  | zero => rfl
  | succ n ih => simp [List.replicate_succ, val, ih]

theorem val_lt {ds : List Nat} (h : Wd ds) : val ds < BB ^ ds.length := by
  induction ds with
  | nil => simp [val]
  | cons d ds ih =>
    have h1 := ih h.tail
    have h2 := h.head
    simp only [val, List.length_cons, Nat.pow_succ]
    have : BB * (val ds + 1) ≤ BB * BB ^ ds.length := Nat.mul_le_mul_left _ h1
    rw [Nat.mul_add] at this
    rw [Nat.mul_comm (BB ^ ds.length) BB]
    omega

/-- the length without zeros at the upper end -/
def tlen : List Nat → Nat
  | [] => 0
  | d :: ds => if tlen ds = 0 then (if d = 0 then 0 else 1) else tlen ds + 1

theorem tlen_cons_zero {d : Nat} {ds : List Nat} (h : tlen ds = 0) (h0 : d = 0) : tlen (d :: ds) = 0 := by simp [tlen, h, h0]
theorem tlen_cons_one {d : Nat} {ds : List Nat} (h : tlen ds = 0) (h0 : d ≠ 0) : tlen (d :: ds) = 1 := by simp [tlen, h, h0]
theorem tlen_cons_succ {d : Nat} {ds : List Nat} (h : tlen ds ≠ 0) : tlen (d :: ds) = tlen ds + 1 := by simp [tlen, h]

theorem tlen_le (ds : List Nat) : tlen ds ≤ ds.length := by
  induction ds with
  | nil => simp [tlen]
  | cons d ds ih =>
    rw [List.length_cons]
    by_cases h : tlen ds = 0
    · by_cases h0 : d = 0
      · rw [tlen_cons_zero h h0]; omega
      · rw [tlen_cons_one h h0]; omega
    · rw [tlen_cons_succ h]; omega

theorem tlen_pred (ds : List Nat) : ∀ k, tlen ds ≤ k + 1 → ds.getD k 0 = 0 → tlen ds ≤ k := by
  induction ds with
  | nil => intro k _ _; simp [tlen]
  | cons d ds ih =>
    intro k h h0
    cases k with
    | zero =>
      have h0 : d = 0 := by simpa using h0
      by_cases h1 : tlen ds = 0
      · rw [tlen_cons_zero h1 h0]; omega
      · rw [tlen_cons_succ h1] at h; omega
    | succ k =>
      have := ih k
      rw [List.getD_cons_succ] at h0
      by_cases h1 : tlen ds = 0
      · by_cases h2 : d = 0
        · rw [tlen_cons_zero h1 h2]; omega
        · rw [tlen_cons_one h1 h2]; omega
      · rw [tlen_cons_succ h1] at h ⊢
        have := this (by omega) h0
        omega

theorem tlen_eq (ds : List Nat) : ∀ k, tlen ds ≤ k + 1 → ds.getD k 0 ≠ 0 → tlen ds = k + 1 := by
  induction ds with
  | nil => intro k _ h; simp at h
  | cons d ds ih =>
    intro k h h0
    cases k with
    | zero =>
      have h0 : d ≠ 0 := by simpa using h0
      by_cases h1 : tlen ds = 0
      · rw [tlen_cons_one h1 h0]
      · rw [tlen_cons_succ h1] at h; omega
    | succ k =>
      rw [List.getD_cons_succ] at h0
      have h1 : tlen ds = k + 1 := by
        by_cases h1 : tlen ds = 0
        · exact ih k (by omega) h0
        · rw [tlen_cons_succ h1] at h; exact ih k (by omega) h0
      rw [tlen_cons_succ (by omega), h1]

/-- without zeros at the upper end -/
def ntrim (ds : List Nat) : List Nat := ds.take (tlen ds)

theorem ntrim_length (ds : List Nat) : (ntrim ds).length = tlen ds := by
  have := tlen_le ds
  simp [ntrim, List.length_take]; omega

theorem val_zero_of_tlen {ds : List Nat} (h : tlen ds = 0) : val ds = 0 := by
  induction ds with
  | nil => rfl
  | cons d ds ih =>
    by_cases h1 : tlen ds = 0
    · by_cases h2 : d = 0
      · simp [val, h2, ih h1]
      · rw [tlen_cons_one h1 h2] at h; omega
    · rw [tlen_cons_succ h1] at h; omega

theorem val_ntrim (ds : List Nat) : val (ntrim ds) = val ds := by
  unfold ntrim
  induction ds with
  | nil => rfl
  | cons d ds ih =>
    by_cases h1 : tlen ds = 0
    · have hz := val_zero_of_tlen h1
      by_cases h2 : d = 0
      · rw [tlen_cons_zero h1 h2]; simp [val, h2, hz]
      · rw [tlen_cons_one h1 h2]; simp [val, hz]
    · rw [tlen_cons_succ h1]; simp [val, ih]

/-- the normal digits of a number -/
noncomputable def digs (n : Nat) : List Nat := if _h : n = 0 then [] else n % BB :: digs (n / BB)
termination_by n
decreasing_by exact Nat.div_lt_self (Nat.pos_of_ne_zero ‹_›) (by rw [BB_eq]; omega)

theorem digs_zero : digs 0 = [] := by rw [digs]; simp
theorem digs_pos {n : Nat} (h : n ≠ 0) : digs n = n % BB :: digs (n / BB) := by rw [digs]; simp [h]

theorem digs_wd (n : Nat) : Wd (digs n) := by
  induction n using Nat.strongRecOn with
  | _ n ih =>
    by_cases h : n = 0
    · rw [h, digs_zero]; exact Wd.nil
    · rw [digs_pos h]
      exact Wd.cons (Nat.mod_lt _ BB_pos) (ih _ (Nat.div_lt_self (Nat.pos_of_ne_zero h) (by rw [BB_eq]; omega)))

theorem val_digs (n : Nat) : val (digs n) = n := by
  induction n using Nat.strongRecOn with
  | _ n ih =>
    by_cases h : n = 0
    · rw [h, digs_zero]; rfl
    · rw [digs_pos h, val, ih _ (Nat.div_lt_self (Nat.pos_of_ne_zero h) (by rw [BB_eq]; omega))]
      exact Nat.mod_add_div n BB

theorem digs_val {ds : List Nat} (h : Wd ds) : digs (val ds) = ntrim ds := by
  induction ds with
  | nil => simp [val, digs_zero, ntrim]
  | cons d ds ih =>
    have h1 := ih h.tail
    have h2 := h.head
    have hm : (d + BB * val ds) % BB = d := by rw [Nat.add_mul_mod_self_left]; exact Nat.mod_eq_of_lt h2
    have hd : (d + BB * val ds) / BB = val ds := by
      rw [Nat.add_mul_div_left _ _ BB_pos, Nat.div_eq_of_lt h2, Nat.zero_add]
    by_cases h3 : tlen ds = 0
    · have hz := val_zero_of_tlen h3
      by_cases h4 : d = 0
      · rw [show val (d :: ds) = 0 by simp [val, hz, h4], digs_zero, ntrim, tlen_cons_zero h3 h4, List.take_zero]
      · simp only [ntrim, tlen_cons_one h3 h4, List.take_succ_cons, List.take_zero, val, hz, Nat.mul_zero, Nat.add_zero]
        rw [digs_pos h4, Nat.mod_eq_of_lt h2, Nat.div_eq_of_lt h2, digs_zero]
    · have hv : val (d :: ds) ≠ 0 := by
        intro h0
        have : val ds = 0 := by
          simp only [val] at h0
          rcases Nat.eq_zero_of_add_eq_zero h0 with ⟨_, h5⟩
          rcases Nat.mul_eq_zero.1 h5 with h6 | h6
          · exact absurd h6 (by rw [BB_eq]; omega)
          · exact h6
        rw [this, digs_zero] at h1
        have := ntrim_length ds
        rw [← h1] at this
        simp at this; omega
      rw [digs_pos hv]
      simp only [val, hm, hd, h1, ntrim, tlen_cons_succ h3, List.take_succ_cons]

/-- how many digits -/
noncomputable def dlen (n : Nat) : Nat := (digs n).length

theorem dlen_val {ds : List Nat} (h : Wd ds) : dlen (val ds) = tlen ds := by rw [dlen, digs_val h, ntrim_length]
theorem dlen_val_le {ds : List Nat} (h : Wd ds) : dlen (val ds) ≤ ds.length := by rw [dlen_val h]; exact tlen_le ds
theorem ntrim_digs (n : Nat) : ntrim (digs n) = digs n := by rw [← digs_val (digs_wd n), val_digs]
theorem tlen_digs (n : Nat) : tlen (digs n) = dlen n := by rw [← ntrim_length, ntrim_digs]; rfl

theorem lt_pow_dlen (n : Nat) : n < BB ^ dlen n := by
  have := val_lt (digs_wd n)
  rwa [val_digs] at this

theorem dlen_zero : dlen 0 = 0 := by rw [dlen, digs_zero]; rfl
theorem dlen_pos {n : Nat} (h : n ≠ 0) : dlen n = dlen (n / BB) + 1 := by rw [dlen, digs_pos h]; rfl
theorem dlen_eq_zero {n : Nat} (h : dlen n = 0) : n = 0 := by
  rcases Nat.decEq n 0 with h1 | h1
  · rw [dlen_pos h1] at h; omega
  · exact h1

theorem pow_le_of_dlen {n k : Nat} (h : dlen n = k + 1) : BB ^ k ≤ n := by
  induction k generalizing n with
  | zero =>
    rcases Nat.eq_zero_or_pos n with h0 | h0
    · rw [h0, dlen_zero] at h; omega
    · rw [Nat.pow_zero]; exact h0
  | succ k ih =>
    have hn : n ≠ 0 := by intro h0; rw [h0, dlen_zero] at h; omega
    rw [dlen_pos hn] at h
    have := ih (n := n / BB) (by omega)
    rw [Nat.pow_succ]
    calc BB ^ k * BB ≤ n / BB * BB := Nat.mul_le_mul_right _ this
      _ ≤ n := Nat.div_mul_le_self n BB

/-- the number of digits is bounded by a power of the base -/
theorem dlen_le_of_lt {n k : Nat} (h : n < BB ^ k) : dlen n ≤ k := by
  rcases Nat.lt_or_ge k (dlen n) with h1 | h1
  · obtain ⟨j, hj⟩ : ∃ j, dlen n = j + 1 := ⟨dlen n - 1, by omega⟩
    have h2 := pow_le_of_dlen hj
    have h3 : BB ^ k ≤ BB ^ j := Nat.pow_le_pow_right BB_pos (by omega)
    omega
  · exact h1

theorem dlen_mono {a b : Nat} (h : a ≤ b) : dlen a ≤ dlen b := dlen_le_of_lt (Nat.lt_of_le_of_lt h (lt_pow_dlen b))

theorem dlen_mul_le (a b : Nat) : dlen (a * b) ≤ dlen a + dlen b := by
  refine dlen_le_of_lt ?_
  rw [Nat.pow_add]
  exact Nat.mul_lt_mul'' (lt_pow_dlen a) (lt_pow_dlen b)

theorem dlen_add_le (a b : Nat) : dlen (a + b) ≤ max (dlen a) (dlen b) + 1 := by
  refine dlen_le_of_lt ?_
  have h1 : a < BB ^ max (dlen a) (dlen b) := Nat.lt_of_lt_of_le (lt_pow_dlen a) (Nat.pow_le_pow_right BB_pos (Nat.le_max_left _ _))
  have h2 : b < BB ^ max (dlen a) (dlen b) := Nat.lt_of_lt_of_le (lt_pow_dlen b) (Nat.pow_le_pow_right BB_pos (Nat.le_max_right _ _))
  rw [Nat.pow_succ]
  have : BB ^ max (dlen a) (dlen b) * 2 ≤ BB ^ max (dlen a) (dlen b) * BB := Nat.mul_le_mul_left _ (by rw [BB_eq]; omega)
  omega

/-- one more digit of the list -/
theorem take_succ_getD (ds : List Nat) {k : Nat} (h : k < ds.length) : ds.take (k + 1) = ds.take k ++ [ds.getD k 0] := by
  rw [List.take_succ_eq_append_getElem h, List.getD_eq_getElem?_getD, List.getElem?_eq_getElem h]; rfl

theorem val_take_succ (ds : List Nat) {k : Nat} (h : k < ds.length) : val (ds.take (k + 1)) = val (ds.take k) + BB ^ k * ds.getD k 0 := by
  rw [take_succ_getD ds h, val_append]
  simp [val, List.length_take, Nat.min_eq_left (Nat.le_of_lt h)]

theorem val_split (ds : List Nat) {k : Nat} (h : k ≤ ds.length) : val ds = val (ds.take k) + BB ^ k * val (ds.drop k) := by
  have := val_append (ds.take k) (ds.drop k)
  rw [List.take_append_drop] at this
  rw [this, List.length_take, Nat.min_eq_left h]

theorem val_set (ds : List Nat) {k : Nat} (h : k < ds.length) (x : Nat) : val (ds.set k x) + BB ^ k * ds.getD k 0 = val ds + BB ^ k * x := by
  induction ds generalizing k with
  | nil => simp at h
  | cons d ds ih =>
    cases k with
    | zero => simp [val]; omega
    | succ k =>
      have := ih (k := k) (by simpa using h)
      simp only [List.set_cons_succ, val, List.getD_cons_succ, Nat.pow_succ]
      rw [Nat.mul_comm (BB ^ k) BB, Nat.mul_assoc, Nat.mul_assoc, Nat.add_assoc, Nat.add_assoc, ← Nat.mul_add, ← Nat.mul_add, this]

theorem take_set_ge (ds : List Nat) (k x : Nat) : (ds.set k x).take k = ds.take k := by
  rw [List.take_set, List.set_eq_of_length_le (by simp; omega)]

theorem take_set_succ (ds : List Nat) {k : Nat} (h : k < ds.length) (x : Nat) : (ds.set k x).take (k + 1) = ds.take k ++ [x] := by
  rw [take_succ_getD _ (by simpa using h), take_set_ge]
  simp [List.getD_eq_getElem?_getD, h]

theorem drop_set_lt (ds : List Nat) {k j : Nat} (h : k < j) (x : Nat) : (ds.set k x).drop j = ds.drop j := by
  rw [List.drop_set]; simp [h]


theorem val_take_succ' (ds : List Nat) (k : Nat) : val (ds.take (k + 1)) = val (ds.take k) + BB ^ k * ds.getD k 0 := by
  rcases Nat.lt_or_ge k ds.length with h | h
  · exact val_take_succ ds h
  · rw [List.take_of_length_le (by omega), List.take_of_length_le h, List.getD_eq_getElem?_getD, List.getElem?_eq_none h]; simp

/-- ds laid over zs from place off on -/
def dsplice (zs : List Nat) (off : Nat) (ds : List Nat) : List Nat := zs.take off ++ (ds ++ zs.drop (off + ds.length))
theorem dsplice_length (zs : List Nat) (off : Nat) (ds : List Nat) (h : off + ds.length ≤ zs.length) : (dsplice zs off ds).length = zs.length := by simp [dsplice]; omega
theorem dsplice_wd {zs ds : List Nat} (off : Nat) (hz : Wd zs) (hd : Wd ds) : Wd (dsplice zs off ds) := (hz.take _).append (hd.append (hz.drop _))
theorem dsplice_val (zs : List Nat) (off : Nat) (ds : List Nat) (h : off ≤ zs.length) : val (dsplice zs off ds) = val (zs.take off) + BB ^ off * (val ds + BB ^ ds.length * val (zs.drop (off + ds.length))) := by
  rw [dsplice, val_append, val_append, List.length_take, Nat.min_eq_left h]
theorem dsplice_whole (n : Nat) (ds : List Nat) (h : ds.length = n) : dsplice (List.replicate n 0) 0 ds = ds := by
  simp [dsplice, h]
theorem dsplice_val_zero (n : Nat) (ds : List Nat) : val (dsplice (List.replicate n 0) 0 ds) = val ds := by
  rw [dsplice_val _ _ _ (Nat.zero_le _), List.take_zero, List.drop_replicate, val_replicate]; simp [val]
theorem dsplice_val_two (n : Nat) (x y : List Nat) (_hx : x.length ≤ n) (_hy : x.length + y.length ≤ n) : val (dsplice (dsplice (List.replicate n 0) 0 x) x.length y) = val x + BB ^ x.length * val y := by
  have e : dsplice (List.replicate n 0) 0 x = x ++ List.replicate (n - x.length) 0 := by simp [dsplice]
  rw [e, dsplice_val _ _ _ (by simp)]
  have e1 : (x ++ List.replicate (n - x.length) 0).take x.length = x := by simp
  have e2 : (x ++ List.replicate (n - x.length) 0).drop (x.length + y.length) = List.replicate (n - x.length - y.length) 0 := by
    rw [List.drop_append]; simp
  rw [e1, e2, val_replicate]; simp

theorem val_drop_zero {z : List Nat} (h : val z = 0) (k : Nat) : val (z.drop k) = 0 := by
  rcases Nat.lt_or_ge z.length k with h1 | h1
  · rw [List.drop_eq_nil_of_le (by omega)]; rfl
  · have h2 := val_split z h1
    have h3 : 0 < BB ^ k := Nat.pow_pos BB_pos
    have h4 : BB ^ k * val (z.drop k) = 0 := by omega
    rcases Nat.mul_eq_zero.1 h4 with h5 | h5
    · omega
    · exact h5
theorem dsplice_val_zz {z x y : List Nat} {k : Nat} (h : val z = 0) (hx : x.length = k) : val (dsplice (dsplice z 0 x) k y) = val x + BB ^ k * val y := by
  subst hx
  have e : dsplice z 0 x = x ++ z.drop x.length := by simp [dsplice]
  rw [e, dsplice_val _ _ _ (by simp)]
  have e1 : (x ++ z.drop x.length).take x.length = x := by simp
  have e2 : (x ++ z.drop x.length).drop (x.length + y.length) = z.drop (x.length + y.length) := by
    rw [List.drop_append]; simp
  rw [e1, e2, val_drop_zero h]; simp

/-- the comparison: -1, 0 or 1 -/
def cmpn (a b : Nat) : Int := if a < b then -1 else if a = b then 0 else 1
theorem cmpn_lt {a b : Nat} (h : a < b) : cmpn a b = -1 := if_pos h
theorem cmpn_gt {a b : Nat} (h : b < a) : cmpn a b = 1 := by unfold cmpn; rw [if_neg (by omega), if_neg (by omega)]
theorem cmpn_eq {a b : Nat} (h : a = b) : cmpn a b = 0 := by unfold cmpn; rw [if_neg (by omega), if_pos h]

theorem lt_of_dlen {a b : Nat} (h : dlen a < dlen b) : a < b := by
  rcases Nat.lt_or_ge a b with h1 | h1
  · exact h1
  · have := dlen_mono h1; omega

theorem val_lt_of_digit {x y : List Nat} (hx : Wd x) (hl : x.length = y.length) {k : Nat} (hk : k < x.length) (hd : x.drop (k + 1) = y.drop (k + 1)) (hlt : x.getD k 0 < y.getD k 0) : val x < val y := by
  have h1 := val_split x (k := k + 1) (by omega)
  have h2 := val_split y (k := k + 1) (by omega)
  rw [h1, h2, hd, val_take_succ x hk, val_take_succ y (by omega)]
  have h3 : val (x.take k) < BB ^ k := by
    have := val_lt (hx.take k)
    rwa [List.length_take, Nat.min_eq_left (by omega)] at this
  have h4 : BB ^ k * (x.getD k 0 + 1) ≤ BB ^ k * y.getD k 0 := Nat.mul_le_mul_left _ hlt
  rw [Nat.mul_add] at h4
  omega

theorem drop_getD_cons (x : List Nat) {k : Nat} (hk : k < x.length) : x.drop k = x.getD k 0 :: x.drop (k + 1) := by
  rw [List.drop_eq_getElem_cons hk, List.getD_eq_getElem?_getD, List.getElem?_eq_getElem hk]; rfl

theorem digs_two {n : Nat} (h : n < BB * BB) : val [n % BB, n / BB % BB] = n := by
  have h1 : n / BB < BB := Nat.div_lt_of_lt_mul h
  simp only [val, Nat.mul_zero, Nat.add_zero]
  rw [Nat.mod_eq_of_lt h1]
  exact Nat.mod_add_div n BB

end Go.Proofs.Ytfpliceenjbclaa
