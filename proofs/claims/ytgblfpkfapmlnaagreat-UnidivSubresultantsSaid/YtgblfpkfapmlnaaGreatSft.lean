/- The walk of unipoly.Shift. -/
import Derived.Deep.RegionHeld3
import Derived.Test.YtgblfpkfapmlnaaGreatRbH
import Derived.Test.YtgblfpkfapmlnaaGreatIntE
import Derived.IntWalk
/- The shift of a polynomial, f(x + c): Horner's scheme from the top (the reference) and the triangle of sums (the program). Plain Lean, no program. -/
namespace Go.Proofs.YtgblfpkfapmlnaaGreat

/-- the first coefficient, 0 for none -/
def hd0 : List Int → Int
  | [] => 0
  | a :: _ => a

/-- c times the list, with the list one place higher: (x + c) * y, where y's first coefficient has been given its share s -/
def mulX (c : Int) : Int → List Int → List Int
  | s, [] => [s]
  | s, b :: y => (s + c * b) :: mulX c b y

/-- f(x + c) by Horner's scheme -/
def hsh (c : Int) : List Int → List Int
  | [] => []
  | a :: t => mulX c a (hsh c t)

theorem mulX_length (c : Int) : ∀ (y : List Int) (s : Int), (mulX c s y).length = y.length + 1 := by
  intro y
  induction y with
  | nil => intro s; rfl
  | cons b y ih => intro s; simp [mulX, ih]
theorem hsh_length (c : Int) (f : List Int) : (hsh c f).length = f.length := by
  induction f with
  | nil => rfl
  | cons a t ih => simp [hsh, mulX_length, ih]

/-- one pass of the triangle -/
def syn (c : Int) : List Int → List Int
  | [] => []
  | a :: t => (if t = [] then a else a + c * hd0 (syn c t)) :: syn c t
theorem syn_length (c : Int) (f : List Int) : (syn c f).length = f.length := by
  induction f with
  | nil => rfl
  | cons a t ih => simp [syn, ih]

/-- f(x + c) = f(c) + x * q(x + c), where f(c), q's coefficients are the pass over f -/
theorem hsh_syn (c : Int) : ∀ f : List Int, f ≠ [] → hsh c f = hd0 (syn c f) :: hsh c (syn c f).tail := by
  intro f
  induction f with
  | nil => intro h; exact absurd rfl h
  | cons a t ih =>
    intro _
    by_cases ht : t = []
    · subst ht; rfl
    · have h1 := ih ht
      rw [hsh, h1]
      simp only [syn, if_neg ht, hd0, List.tail_cons, mulX]
      congr 1
      have h2 : syn c t ≠ [] := by
        intro e
        have := syn_length c t
        rw [e] at this
        exact ht (List.eq_nil_of_length_eq_zero (by simpa using this.symm))
      generalize syn c t = u at h2 ⊢
      cases u with
      | nil => exact absurd rfl h2
      | cons h q => rfl

/-- the pass over the tail from place low on -/
def pass (c : Int) (low : Nat) (l : List Int) : List Int := l.take low ++ syn c (l.drop low)
theorem pass_length (c : Int) (low : Nat) (l : List Int) : (pass c low l).length = l.length := by
  simp [pass, syn_length]; omega

/-- the list after k passes -/
def st (c : Int) (l : List Int) : Nat → List Int
  | 0 => l
  | k + 1 => pass c k (st c l k)
theorem st_length (c : Int) (l : List Int) (k : Nat) : (st c l k).length = l.length := by
  induction k with
  | zero => rfl
  | succ k ih => rw [st, pass_length, ih]

theorem st_inv (c : Int) (l : List Int) : ∀ k, k < l.length → hsh c l = (st c l k).take k ++ hsh c ((st c l k).drop k) := by
  intro k
  induction k with
  | zero => intro _; simp [st]
  | succ k ih =>
    intro h
    rw [ih (by omega), st]
    have hm := st_length c l k
    generalize st c l k = m at hm
    have hd : (m.drop k).length = l.length - k := by rw [List.length_drop, hm]
    have hne : m.drop k ≠ [] := by
      intro e
      rw [e] at hd
      simp at hd
      omega
    rw [hsh_syn c _ hne]
    have hs := syn_length c (m.drop k)
    generalize hu : syn c (m.drop k) = u at hs
    have hp : pass c k m = m.take k ++ u := by rw [pass, hu]
    have hl : (m.take k).length = k := by rw [List.length_take]; omega
    cases u with
    | nil => simp at hs; omega
    | cons h1 q =>
      rw [hp, List.take_append, List.drop_append, hl]
      simp [show k + 1 - k = 1 by omega, List.take_of_length_le, List.drop_eq_nil_of_le, hl, hd0]

theorem st_hsh (c : Int) (l : List Int) (n : Nat) (hn : l.length = n + 1) : st c l n = hsh c l := by
  rw [st_inv c l n (by omega)]
  have h1 := st_length c l n
  have h2 : ((st c l n).drop n).length = 1 := by rw [List.length_drop, h1]; omega
  have h3 : hsh c ((st c l n).drop n) = (st c l n).drop n := by
    generalize (st c l n).drop n = d at h2
    match d, h2 with
    | [a], _ => rfl
  rw [h3, List.take_append_drop]

theorem pass_last (c : Int) (l : List Int) (n : Nat) (hn : l.length = n + 1) : pass c n l = l := by
  have h2 : (l.drop n).length = 1 := by rw [List.length_drop]; omega
  have h3 : syn c (l.drop n) = l.drop n := by
    generalize l.drop n = d at h2
    match d, h2 with
    | [a], _ => rfl
  rw [pass, h3, List.take_append_drop]

theorem drop_cons_getD (l : List Int) {j : Nat} (h : j < l.length) : l.drop j = l.getD j 0 :: l.drop (j + 1) := by
  rw [List.drop_eq_getElem_cons h, List.getD_eq_getElem?_getD, List.getElem?_eq_getElem h]; rfl

theorem pass_get (c : Int) (l : List Int) {j : Nat} (h : j + 1 < l.length) : (pass c (j + 1) l).getD j 0 = l.getD j 0 ∧ (pass c (j + 1) l).getD (j + 1) 0 = hd0 (syn c (l.drop (j + 1))) := by
  have hl : (l.take (j + 1)).length = j + 1 := by rw [List.length_take]; omega
  constructor
  · rw [pass, List.getD_eq_getElem?_getD, List.getElem?_append_left (by omega), List.getElem?_take_of_lt (by omega), List.getD_eq_getElem?_getD]
  · rw [pass, List.getD_eq_getElem?_getD, List.getElem?_append_right (by omega), hl, Nat.sub_self]
    cases syn c (l.drop (j + 1)) <;> rfl

theorem pass_step (c : Int) (l : List Int) {j : Nat} (h : j + 1 < l.length) :
    (pass c (j + 1) l).set j ((pass c (j + 1) l).getD j 0 + c * (pass c (j + 1) l).getD (j + 1) 0) = pass c j l := by
  obtain ⟨h1, h2⟩ := pass_get c l h
  rw [h1, h2]
  have hl : (l.take (j + 1)).length = j + 1 := by rw [List.length_take]; omega
  have e1 : l.take (j + 1) = l.take j ++ [l.getD j 0] := by
    rw [List.take_succ_eq_append_getElem (by omega), List.getD_eq_getElem?_getD, List.getElem?_eq_getElem (by omega)]; rfl
  have hl2 : (l.take j).length = j := by rw [List.length_take]; omega
  have hne : l.drop (j + 1) ≠ [] := by
    intro e
    have := congrArg List.length e
    rw [List.length_drop] at this
    simp at this
    omega
  rw [pass, pass, drop_cons_getD l (show j < l.length by omega), syn, if_neg hne, e1, List.append_assoc, List.set_append_right _ _ (by omega), hl2, Nat.sub_self]
  rfl

/-! ### zeros at the upper end -/
theorem mulX_zeros (c s : Int) (y : List Int) (m : Nat) (h : y = [] → m = 0) : mulX c s (y ++ List.replicate m 0) = mulX c s y ++ List.replicate m 0 := by
  induction y generalizing s with
  | nil =>
    rw [h rfl]; simp
  | cons b y ih =>
    by_cases hy : y = []
    · subst hy
      simp only [List.cons_append, List.nil_append, mulX]
      congr 1
      clear ih h
      induction m generalizing b with
      | zero => rfl
      | succ m ihm =>
        rw [List.replicate_succ, mulX, ihm 0]
        simp
    · simp only [List.cons_append, mulX]
      rw [ih b (fun e => absurd e hy)]
theorem mulX_zero_zeros (c : Int) (m : Nat) : mulX c 0 (List.replicate m 0) = List.replicate (m + 1) 0 := by
  induction m with
  | zero => rfl
  | succ m ih => rw [List.replicate_succ, mulX, ih]; simp [List.replicate_succ]
theorem hsh_replicate (c : Int) (m : Nat) : hsh c (List.replicate m 0) = List.replicate m 0 := by
  induction m with
  | zero => rfl
  | succ m ih => rw [List.replicate_succ, hsh, ih, mulX_zero_zeros, List.replicate_succ]
theorem mulX_nz (c s : Int) (m : Nat) : mulX c s (List.replicate m 0) = s :: List.replicate m 0 := by
  cases m with
  | zero => rfl
  | succ m => rw [List.replicate_succ, mulX, mulX_zero_zeros]; simp [List.replicate_succ]
theorem hsh_zeros (c : Int) (l : List Int) (m : Nat) : hsh c (l ++ List.replicate m 0) = hsh c l ++ List.replicate m 0 := by
  induction l with
  | nil => simpa [hsh] using hsh_replicate c m
  | cons a t ih =>
    rw [List.cons_append, hsh, ih, hsh]
    by_cases ht : hsh c t = []
    · rw [ht, List.nil_append, mulX_nz]; rfl
    · exact mulX_zeros c a _ m (fun e => absurd e ht)

/-! ### signs and bounds -/
theorem mulX_pos {c : Int} (hc : 0 < c) : ∀ (y : List Int) (s : Int), 0 < s + c * hd0 y → (∀ x ∈ y, 0 < x) → y ≠ [] → ∀ x ∈ mulX c s y, 0 < x := by
  intro y
  induction y with
  | nil => intro s _ _ h; exact absurd rfl h
  | cons b y ih =>
    intro s hs hy _ x hx
    simp only [mulX, List.mem_cons] at hx
    have hb := hy b List.mem_cons_self
    rcases hx with rfl | hx
    · exact hs
    · by_cases hn : y = []
      · subst hn
        simp [mulX] at hx
        omega
      · refine ih b ?_ (fun z hz => hy z (List.mem_cons_of_mem _ hz)) hn x hx
        cases y with
        | nil => exact absurd rfl hn
        | cons d y =>
          have hd := hy d (by simp)
          have := Int.mul_pos hc hd
          simp only [hd0]
          omega

/-- all coefficients of f(x + c) are positive where f's last one is and c is greater than all of them -/
theorem hsh_pos {c : Int} (hc : 0 < c) (l : List Int) (a : Int) (ha : 0 < a) (hl : ∀ x ∈ l, -c < x) : ∀ x ∈ hsh c (l ++ [a]), 0 < x := by
  induction l with
  | nil => intro x hx; simp [hsh, mulX] at hx; omega
  | cons b l ih =>
    have h1 := ih (fun x hx => hl x (List.mem_cons_of_mem _ hx))
    have hne : hsh c (l ++ [a]) ≠ [] := by
      intro e
      have := hsh_length c (l ++ [a])
      rw [e] at this
      simp at this
    refine mulX_pos hc _ _ ?_ h1 hne
    have hb := hl b List.mem_cons_self
    cases hu : hsh c (l ++ [a]) with
    | nil => exact absurd hu hne
    | cons d q =>
      rw [hu] at h1
      have hd := h1 d List.mem_cons_self
      simp only [hd0]
      have : c * 1 ≤ c * d := Int.mul_le_mul_of_nonneg_left (by omega) (by omega)
      omega

theorem mulX_neg (c : Int) : ∀ (y : List Int) (s : Int), mulX c (-s) (y.map (- ·)) = (mulX c s y).map (- ·) := by
  intro y
  induction y with
  | nil => intro s; rfl
  | cons b y ih =>
    intro s
    simp only [List.map_cons, mulX, ih]
    congr 1
    rw [Int.mul_neg]; omega
theorem hsh_neg (c : Int) (l : List Int) : hsh c (l.map (- ·)) = (hsh c l).map (- ·) := by
  induction l with
  | nil => rfl
  | cons a t ih => simp only [List.map_cons, hsh, ih, mulX_neg]

theorem mulX_bound {c : Int} {C B S : Nat} (hc : c.natAbs ≤ C) : ∀ (y : List Int) (s : Int), s.natAbs ≤ S → B ≤ S → (∀ x ∈ y, x.natAbs ≤ B) → ∀ x ∈ mulX c s y, x.natAbs ≤ S + C * B := by
  intro y
  induction y with
  | nil => intro s hs _ _ x hx; simp [mulX] at hx; subst hx; omega
  | cons b y ih =>
    intro s hs hBS hy x hx
    simp only [mulX, List.mem_cons] at hx
    have hb := hy b List.mem_cons_self
    rcases hx with rfl | hx
    · have h1 : (c * b).natAbs ≤ C * B := by rw [Int.natAbs_mul]; exact Nat.mul_le_mul hc hb
      omega
    · exact ih b (by omega) hBS (fun z hz => hy z (List.mem_cons_of_mem _ hz)) x hx

theorem hsh_bound {c : Int} {C M : Nat} (hc : c.natAbs ≤ C) (hC : 1 ≤ C) (l : List Int) (hl : ∀ x ∈ l, x.natAbs ≤ M) : ∀ x ∈ hsh c l, x.natAbs ≤ M * (C + 2) ^ l.length := by
  induction l with
  | nil => intro x hx; cases hx
  | cons a t ih =>
    intro x hx
    have h1 := ih (fun z hz => hl z (List.mem_cons_of_mem _ hz))
    have ha := hl a List.mem_cons_self
    have hp : 1 ≤ (C + 2) ^ t.length := Nat.le_trans Nat.one_le_two_pow (Nat.pow_le_pow_left (by omega) _)
    have hM : M ≤ M * (C + 2) ^ t.length := Nat.le_mul_of_pos_right _ hp
    have h2 := mulX_bound hc (hsh c t) a (S := M + M * (C + 2) ^ t.length) (by omega) (by omega) h1 x hx
    rw [List.length_cons, Nat.pow_succ, ← Nat.mul_assoc, Nat.mul_add]
    have : C * (M * (C + 2) ^ t.length) = M * (C + 2) ^ t.length * C := Nat.mul_comm _ _
    omega
end Go.Proofs.YtgblfpkfapmlnaaGreat

/- A region that draws its order and whose last operation waits for all others: the others in whatever order, then the last one. -/
namespace Go.Proofs.YtgblfpkfapmlnaaGreat
open Go

section
variable {P : Program} {ops : Array Oper} {Q : Exit → Act → World → Prop} {md : Region.Mode}

/-- the last operation waits for every other one, every operation waits for elder ones alone, none is guarded -/
def lastB (md : Region.Mode) (ops : Array Oper) : Bool :=
  decide (0 < ops.size) &&
  ((List.range (ops.size - 1)).all fun i => ((ops[ops.size - 1]?).map fun o => o.after.any fun e => Region.binds md e && e.on == i).getD false) &&
  ((List.range ops.size).all fun i => ((ops[i]?).map fun o => (o.after.all fun e => decide (e.on < i)) && o.guard.isNone).getD false)

structure LastWaits (md : Region.Mode) (ops : Array Oper) (L : Nat) : Prop where
  size : ops.size = L + 1
  last : ∀ i, i < L → ∃ o : Oper, ops[L]? = some o ∧ ∃ e ∈ o.after, Region.binds md e = true ∧ e.on = i
  back : ∀ (i : Nat) (o : Oper), ops[i]? = some o → (∀ e ∈ o.after, e.on < i) ∧ o.guard = none

theorem lastB_spec (h : lastB md ops = true) : LastWaits md ops (ops.size - 1) := by
  unfold lastB at h
  simp only [Bool.and_eq_true, decide_eq_true_eq] at h
  obtain ⟨⟨h1, h2⟩, h3⟩ := h
  refine ⟨by omega, fun i hi => ?_, fun i o ho => ?_⟩
  · have h4 := List.all_eq_true.1 h2 i (List.mem_range.2 hi)
    cases hl : ops[ops.size - 1]? with
    | none => rw [hl] at h4; simp at h4
    | some o =>
      rw [hl] at h4
      simp only [Option.map_some, Option.getD_some] at h4
      obtain ⟨e, he, hb⟩ := Array.any_eq_true'.1 h4
      simp only [Bool.and_eq_true, beq_iff_eq] at hb
      exact ⟨o, rfl, e, he, hb.1, hb.2⟩
  · have hlt : i < ops.size := (Array.getElem?_eq_some_iff.1 ho).1
    have h4 := List.all_eq_true.1 h3 i (List.mem_range.2 hlt)
    rw [ho] at h4
    simp only [Option.map_some, Option.getD_some, Bool.and_eq_true] at h4
    refine ⟨fun e he => ?_, by simpa using h4.2⟩
    have := Array.all_eq_true'.1 h4.1 e he
    simpa using this

theorem pop_get {L j : Nat} (hs : ops.size = L + 1) (hj : j < L) : ops.pop[j]? = ops[j]? := by
  rw [Array.getElem?_pop]; simp [hs]; omega

theorem listed_pop {listed : Array Bool} {L j : Nat} (hs : listed.size = L + 1) (d : Bool) (hj : j < L) : listed.pop.getD j d = listed.getD j d := by
  simp only [Array.getD_eq_getD_getElem?, Array.getElem?_pop]
  rw [if_pos (by omega)]

theorem ready_pop {L : Nat} (hw : LastWaits md ops L) {listed : Array Bool} (hs : listed.size = L + 1) {i : Nat} (hi : i < L) :
    i ∈ Region.ready md ops.pop listed.pop ↔ i ∈ Region.ready md ops listed := by
  rw [mem_ready, mem_ready, listed_pop hs _ hi, pop_get hw.size hi]
  constructor
  · rintro ⟨h1, o, ho, h2⟩
    refine ⟨h1, o, ho, fun e he hb => ?_⟩
    have := (hw.back i o ho).1 e he
    rw [← listed_pop hs _ (by omega)]
    exact h2 e he hb
  · rintro ⟨h1, o, ho, h2⟩
    refine ⟨h1, o, ho, fun e he hb => ?_⟩
    have := (hw.back i o ho).1 e he
    rw [listed_pop hs _ (by omega)]
    exact h2 e he hb

theorem ready_pop_lt {L : Nat} (hw : LastWaits md ops L) {listed : Array Bool} {i : Nat} (h : i ∈ Region.ready md ops.pop listed) : i < L := by
  obtain ⟨_, o, ho, _⟩ := mem_ready.1 h
  have := (Array.getElem?_eq_some_iff.1 ho).1
  rw [Array.size_pop, hw.size] at this
  omega

/-- where nothing else may come up, all others have come up, and the last one is next -/
theorem last_ready {L : Nat} (hw : LastWaits md ops L) {listed : Array Bool} (hs : listed.size = L + 1) (hL : listed.getD L true = false) (h : ∀ i, i < L → i ∉ Region.ready md ops listed) :
    (∀ i, i < L → listed.getD i false = true) ∧ L ∈ Region.ready md ops listed := by
  have hall : ∀ i, i < L → listed.getD i false = true := by
    intro i
    induction i using Nat.strongRecOn with
    | _ i ih =>
      intro hi
      have hn := h i hi
      have hlt : i < ops.size := by rw [hw.size]; omega
      have ho : ops[i]? = some ops[i] := Array.getElem?_eq_getElem hlt
      cases hl : listed.getD i true with
      | true =>
        have hlt2 : i < listed.size := by omega
        simp [hlt2] at hl ⊢
        exact hl
      | false =>
        exfalso
        refine hn (mem_ready.2 ⟨hl, _, ho, fun e he _ => ?_⟩)
        have := (hw.back i _ ho).1 e he
        exact ih e.on this (by omega)
  refine ⟨hall, mem_ready.2 ⟨hL, ?_⟩⟩
  have hlt : L < ops.size := by rw [hw.size]; omega
  have ho : ops[L]? = some ops[L] := Array.getElem?_eq_getElem hlt
  refine ⟨_, ho, fun e he _ => ?_⟩
  exact hall _ ((hw.back L _ ho).1 e he)

theorem last_only {L : Nat} (hw : LastWaits md ops L) {listed : Array Bool} (hL : L ∈ Region.ready md ops listed) : ∀ i, i < L → listed.getD i false = true := by
  intro i hi
  obtain ⟨_, o, ho, h2⟩ := mem_ready.1 hL
  obtain ⟨o', ho', e, he, hb, hon⟩ := hw.last i hi
  rw [ho] at ho'
  injection ho' with ho'
  subst ho'
  rw [← hon]
  exact h2 e he hb

theorem not_ready {L : Nat} {listed : Array Bool} (hs : listed.size = L + 1) {i : Nat} (hi : i < L + 1) (h : listed.getD i false = true) : i ∉ Region.ready md ops listed := by
  intro hr
  have := (mem_ready.1 hr).1
  have hlt : i < listed.size := by omega
  simp [hlt] at this h
  rw [h] at this
  cases this

/-- what is asked behind the others: the last one's step -/
def LastQ (P : Program) (ops : Array Oper) (L : Nat) (Q : Exit → Act → World → Prop) : Exit → Act → World → Prop
  | .normal, a, w => wpOp P ops Q L (fun a' w' => Q .normal a' w') a w
  | e, a, w => Q e a w

theorem wpOp_pop {L : Nat} (hw : LastWaits md ops L) {i : Nat} (hi : i < L) {K : Act → World → Prop} {a : Act} {w : World} (h : wpOp P ops.pop (LastQ P ops L Q) i K a w) : wpOp P ops Q i K a w := by
  have hlt : i < ops.size := by rw [hw.size]; omega
  have ho : ops[i]? = some ops[i] := Array.getElem?_eq_getElem hlt
  have hg := (hw.back i _ ho).2
  have hwant : ∀ y, Region.wanted ops[i] y = true := fun y => by simp [Region.wanted, hg]
  unfold wpOp at *
  rw [pop_get hw.size hi, ho] at h
  rw [ho]
  simp only [hwant, if_true] at h ⊢
  refine h.imp (fun h => ?_) (fun h => ?_)
  · unfold Oper.wp at *
    generalize (execOp a.eval ops[i]).run P w = r at *
    cases r with
    | ok n w' =>
      cases n <;> simp only [Oper.upon] at h ⊢ <;> first
        | exact h
        | (refine Calls.mono h fun e w'' he => ?_
           cases e <;> exact he)
    | halt x w' => cases x <;> simp only [Oper.upon] at h ⊢ <;> exact h
  · exact h

theorem set_last {listed : Array Bool} {L : Nat} (hs : listed.size = L + 1) (h : ∀ i, i < L → listed.getD i false = true) : Region.ready md ops (listed.setIfInBounds L true) = [] := by
  cases hr : Region.ready md ops (listed.setIfInBounds L true) with
  | nil => rfl
  | cons i rest =>
    exfalso
    have hi : i ∈ Region.ready md ops (listed.setIfInBounds L true) := by rw [hr]; exact List.mem_cons_self
    have h1 := (mem_ready.1 hi).1
    rcases Nat.lt_or_ge i (L + 1) with hlt | hge
    · by_cases hiL : i = L
      · subst hiL
        simp [hs] at h1
      · exact not_ready (by simp [hs]) hlt (getD_set_true (h i (by omega))) hi
    · have hn : (listed.setIfInBounds L true)[i]? = none := Array.getElem?_eq_none (by simp [hs]; omega)
      rw [Array.getD_eq_getD_getElem?, hn] at h1
      simp at h1

theorem wpAny_of_pop {L : Nat} (hw : LastWaits md ops L) : ∀ (fuel : Nat) (listed : Array Bool) (a : Act) (w : World), listed.size = L + 1 → listed.getD L true = false →
    wpAny P md ops.pop (LastQ P ops L Q) fuel listed.pop a w → wpAny P md ops Q (fuel + 1) listed a w := by
  intro fuel
  have step : ∀ (f : Nat) (listed : Array Bool) (a : Act) (w : World), listed.size = L + 1 → (∀ i, i < L → listed.getD i false = true) → LastQ P ops L Q .normal a w →
      wpOp P ops Q L (wpAny P md ops Q f (listed.setIfInBounds L true)) a w := by
    intro f listed a w hs hall h
    refine wpOp_mono (fun a' w' h' => ?_) (show wpOp P ops Q L (fun a' w' => Q .normal a' w') a w from h)
    have hn := set_last (md := md) (ops := ops) hs hall
    cases f with
    | zero => exact ⟨hn, h'⟩
    | succ f => exact ⟨fun _ => h', by rw [hn]; simp⟩
  induction fuel with
  | zero =>
    intro listed a w hs hL h
    obtain ⟨h1, h2⟩ := h
    have hno : ∀ i, i < L → i ∉ Region.ready md ops listed := fun i hi hr => by
      have := (ready_pop hw hs hi).2 hr
      rw [h1] at this
      cases this
    obtain ⟨hall, hrL⟩ := last_ready hw hs hL hno
    refine ⟨fun h0 => (by rw [h0] at hrL; cases hrL), fun i hi => ?_⟩
    have hiL : i = L := by
      obtain ⟨_, o, ho, _⟩ := mem_ready.1 hi
      have := (Array.getElem?_eq_some_iff.1 ho).1
      rw [hw.size] at this
      rcases Nat.lt_or_ge i L with h3 | h3
      · exact absurd hi (hno i h3)
      · omega
    subst hiL
    exact step 0 listed a w hs hall h2
  | succ fuel ih =>
    intro listed a w hs hL h
    obtain ⟨h1, h2⟩ := h
    refine ⟨fun h0 => ?_, fun i hi => ?_⟩
    · obtain ⟨_, hrL⟩ := last_ready hw hs hL (fun i _ => by rw [h0]; simp)
      rw [h0] at hrL; cases hrL
    · have hlt : i < L + 1 := by
        obtain ⟨_, o, ho, _⟩ := mem_ready.1 hi
        have := (Array.getElem?_eq_some_iff.1 ho).1
        rw [hw.size] at this
        exact this
      by_cases hiL : i = L
      · subst hiL
        have hall := last_only hw hi
        have hnil : Region.ready md ops.pop listed.pop = [] := by
          cases hr : Region.ready md ops.pop listed.pop with
          | nil => rfl
          | cons j rest =>
            exfalso
            have hj : j ∈ Region.ready md ops.pop listed.pop := by rw [hr]; exact List.mem_cons_self
            have hjl := ready_pop_lt hw hj
            exact not_ready hs (by omega) (hall j hjl) ((ready_pop hw hs hjl).1 hj)
        exact step (fuel + 1) listed a w hs hall (h1 hnil)
      · have hil : i < L := by omega
        have h3 := h2 i ((ready_pop hw hs hil).2 hi)
        refine wpOp_mono (fun a' w' h' => ih _ a' w' (by simp [hs]) (by rw [getD_set_ne true hiL]; exact hL) ?_) (wpOp_pop hw hil h3)
        have e : (listed.setIfInBounds i true).pop = listed.pop.setIfInBounds i true := by
          apply Array.ext_getElem?
          intro j
          rw [Array.getElem?_pop, Array.getElem?_setIfInBounds, Array.getElem?_setIfInBounds, Array.getElem?_pop]
          by_cases hij : i = j
          · subst hij
            simp [hs, hil]
            omega
          · simp [hij]
        rw [e]
        exact h'

theorem take_at {S : World → Prop} {i d : Nat} {oi : Oper} {v : Value} {fuel : Nat} {listed : Array Bool} {a : Act} {w : World} (hi : ops[i]? = some oi) (hd : oi.dst = some d)
    (hs : Region.noSelect ops = true) (hf : Region.free md ops listed i = true) (hr : (Region.ready md ops listed).contains i = true)
    (hQ : ∀ c a w, Q (.panic c) (a.put (some d) v) w → Q (.panic c) a w) (hy : YieldsIf P ops S oi v a) (hS : S w)
    (h : wpAnyH P md ops Q S fuel (listed.setIfInBounds i true) (a.put (some d) v) w) : wpAnyH P md ops Q S (fuel + 1) listed a w := by
  rw [← hd] at h hQ
  exact wpAnyH_take hi hs hf hr hQ hy hS h

theorem put_lit (l : List Value) (d : List Deferred) (k : Nat) (v : Value) : ({ tmps := l.toArray, defers := d } : Act).put (some k) v = { tmps := (l.set k v).toArray, defers := d } := by
  simp [Act.put]

theorem lastQ_list {L : Nat} {a : Act} {w : World} {o : Oper} (h : ops[L]? = some o) (hl : wpList P ops Q [o] a w) : LastQ P ops L Q .normal a w := by
  show wpOp P ops Q L (fun a' w' => Q .normal a' w') a w
  unfold wpOp
  rw [h]
  unfold wpList at hl
  exact hl

/-- **THE LAW**: the others in whatever order under S, then the last one. -/
theorem wp_region_last {S : World → Prop} {id : Nat} {a : Act} {w : World} (hm : P.follows .mixedOrders = true) (hB : lastB .any ops = true) (hS : S w.drew)
    (h : S w.drew → wpAnyH P .any ops.pop (LastQ P ops (ops.size - 1) Q) S (ops.size - 1) (Array.replicate (ops.size - 1) false) a w.drew) : (Code.region id ops true).wp P Q a w := by
  have hw := lastB_spec hB
  have hs := hw.size
  refine wp_region_any hm ?_
  have h1 := wpAny_of_held _ _ _ _ (h hS)
  have e : (Array.replicate ops.size false).pop = Array.replicate (ops.size - 1) false := by simp
  rw [← e] at h1
  have h2 := wpAny_of_pop (Q := Q) hw (ops.size - 1) (Array.replicate ops.size false) a w.drew (by simp; omega) (by simp [show ops.size - 1 < ops.size by omega]) h1
  rw [show ops.size - 1 + 1 = ops.size by omega] at h2
  exact h2
end
end Go.Proofs.YtgblfpkfapmlnaaGreat

/- The walk of unipoly.Shift. -/
namespace Go.Proofs.YtgblfpkfapmlnaaGreat
open Go.RowKit

/-- an integer of at most 40 digits -/
def Fit (z : Int) : Prop := z.natAbs < BB ^ 40
theorem sm_pow {n k : Nat} (h : n < BB ^ k) (hk : k ≤ 1000) : Sm n := Nat.le_trans (dlen_le_of_lt h) (by omega)
theorem Fit.sm {z : Int} (h : Fit z) : SmI z := sm_pow h (by omega)
theorem Fit.mulok {a : Int} (h : Fit a) (b : Int) : MulOK a.natAbs b.natAbs := .inl (by have := dlen_le_of_lt h; omega)
theorem Fit.mul {a b : Int} (ha : Fit a) (hb : Fit b) : (a * b).natAbs < BB ^ 80 := by
  rw [Int.natAbs_mul, show 80 = 40 + 40 from rfl, Nat.pow_add]
  exact Nat.mul_lt_mul'' ha hb
theorem Fit.add {a b c : Int} (ha : Fit a) (hb : Fit b) (hc : Fit c) : Sm (a.natAbs + (b * c).natAbs) := by
  have h1 := hb.mul hc
  have h2 : BB ^ 40 ≤ BB ^ 80 := Nat.pow_le_pow_right BB_pos (by omega)
  refine sm_pow (k := 81) ?_ (by omega)
  rw [Nat.pow_succ]
  have h3 : BB ^ 80 * 2 ≤ BB ^ 80 * BB := Nat.mul_le_mul_left _ (by rw [BB_eq]; omega)
  unfold Fit at ha
  omega
theorem Fit.sm2 {a b : Int} (ha : Fit a) (hb : Fit b) : SmI (a * b) := sm_pow (ha.mul hb) (by omega)

theorem IBox.row {W : World} {g g' : Nat} {n : Bool} {A : Option Addr} {l c : Nat} {z : Int} {zs : List Int} (h : IBox W g n A l c z) (hr : PRow W g' zs) {i : Nat} (hi : i < zs.length) (hg : g ≠ g') (u v : Value) :
    IBox ((W.setCell ⟨g', i * 2, none⟩ u).setCell ⟨g', i * 2 + 1, none⟩ v) g n A l c z := by
  obtain ⟨n0, A0, l0, c0, e0, e1, _⟩ := hr.elems i hi
  have k0 := h.c0
  have k1 := h.c1
  have f0 := h.f0
  have f1 := h.f1
  have e1' : (W.setCell ⟨g', i * 2, none⟩ u).cell? ⟨g', i * 2 + 1, none⟩ = some (.slice A0 l0 c0) := by
    rw [World.cell?_setCell_other W _ _ _ (by simp)]; exact e1
  exact ⟨by go_simp, by go_simp, by go_simp, by go_simp, by simpa [World.setCell] using h.lt, (h.hz.store _ e0 (noDigit_bool _)).store _ e1' (noDigit_slice _ _ _)⟩

/-- what the shift needs: every number that comes up fits -/
def ShOK (c : Int) (q : List Int) : Prop := Fit c ∧ ∀ k j i, k ≤ q.length → Fit ((pass c j (st c q k)).getD i 0)

end Go.Proofs.YtgblfpkfapmlnaaGreat
