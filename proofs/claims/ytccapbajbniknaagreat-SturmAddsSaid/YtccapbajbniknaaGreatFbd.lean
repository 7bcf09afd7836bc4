/- A factor's coefficients are bounded by those of the product. Plain: no program. -/
import Derived.Test.YtccapbajbniknaaGreatGtn
namespace Go.Proofs.YtccapbajbniknaaGreat

theorem ev_cons (a : Int) (t : List Int) (x : Int) : ev (a :: t) x = a + x * ev t x := by
  unfold ev
  have h : ∀ (F : Nat → Int) n, evn F x (n + 1) = F 0 + x * evn (fun i => F (i + 1)) x n := by
    intro F n
    induction n with
    | zero => simp [evn]
    | succ n ih => rw [evn, ih, evn, Int.pow_succ]; grind
  rw [List.length_cons, h]
  rfl
/-- quotient and value of the division by x - c -/
def sd (c : Int) : List Int → List Int × Int
  | [] => ([], 0)
  | a :: t => ((sd c t).2 :: (sd c t).1, a + c * (sd c t).2)
theorem sd_val (c : Int) : ∀ p, (sd c p).2 = ev p c
  | [] => by rw [ev_nil]; rfl
  | a :: t => by rw [ev_cons, ← sd_val c t]; rfl
theorem sd_ev (c x : Int) : ∀ p, ev p x = (x - c) * ev (sd c p).1 x + ev p c
  | [] => by rw [ev_nil, ev_nil]; show (0 : Int) = (x - c) * ev [] x + 0; rw [ev_nil]; omega
  | a :: t => by
    have h := sd_ev c x t
    show ev (a :: t) x = (x - c) * ev ((sd c t).2 :: (sd c t).1) x + ev (a :: t) c
    rw [ev_cons, ev_cons, ev_cons, sd_val, h]
    grind
theorem sd_zero (c : Int) : ∀ (p : List Int) (n : Nat), (∀ j, n ≤ j → p.getD j 0 = 0) → ∀ j, n ≤ j + 1 → (sd c p).1.getD j 0 = 0
  | [], _, _, j, _ => by show ([] : List Int).getD j 0 = 0; simp
  | a :: t, n, h, j, hj => by
    have ht : ∀ j, n - 1 ≤ j → t.getD j 0 = 0 := fun j hj => by have := h (j + 1) (by omega); simpa using this
    show ((sd c t).2 :: (sd c t).1).getD j 0 = 0
    match j with
    | 0 =>
      show (sd c t).2 = 0
      rw [sd_val, ev_congr (q := []) (fun k => by rw [ht k (by omega)]; simp) c, ev_nil]
    | j + 1 =>
      have := sd_zero c t (n - 1) ht j (by omega)
      simpa using this
theorem sd_plen (c : Int) (p : List Int) : plen (sd c p).1 ≤ plen p - 1 := plen_le_of fun k hk => sd_zero c p (plen p) (fun j hj => getD_ge_plen p j hj) k (by omega)
theorem sd_get (c : Int) : ∀ (p : List Int), p.getD 0 0 = ev p c - c * (sd c p).1.getD 0 0 ∧ ∀ j, p.getD (j + 1) 0 = (sd c p).1.getD j 0 - c * (sd c p).1.getD (j + 1) 0
  | [] => by
    refine ⟨?_, fun j => ?_⟩
    · rw [ev_nil]; show (0 : Int) = 0 - c * 0; omega
    · show ([] : List Int).getD (j + 1) 0 = ([] : List Int).getD j 0 - c * ([] : List Int).getD (j + 1) 0
      simp
  | a :: t => by
    obtain ⟨h1, h2⟩ := sd_get c t
    refine ⟨?_, fun j => ?_⟩
    · show a = ev (a :: t) c - c * (sd c t).2
      rw [ev_cons, sd_val]; omega
    · show t.getD j 0 = ((sd c t).2 :: (sd c t).1).getD j 0 - c * (sd c t).1.getD j 0
      match j with
      | 0 => show t.getD 0 0 = (sd c t).2 - c * (sd c t).1.getD 0 0; rw [sd_val]; exact h1
      | j + 1 => exact h2 j

theorem roots_le : ∀ (n : Nat) (p : List Int) (xs : List Int), plen p ≤ n + 1 → plen p ≠ 0 → xs.Nodup → (∀ x ∈ xs, ev p x = 0) → xs.length ≤ n
  | _, _, [], _, _, _, _ => Nat.zero_le _
  | 0, p, x :: xs, hp, h0, _, hz => by
    have h1 := hz x (List.mem_cons_self ..)
    have h2 : p.getD 0 0 ≠ 0 := plen_lead p 0 (by omega)
    have e : ev p x = p.getD 0 0 := by
      rw [ev_congr (q := [p.getD 0 0]) (fun k => ?_) x, ev_const]
      cases k with
      | zero => simp
      | succ k => rw [getD_ge_plen p (k + 1) (by omega)]; simp
    exact absurd (e ▸ h1) h2
  | n + 1, p, x :: xs, hp, h0, hn, hz => by
    have h1 := hz x (List.mem_cons_self ..)
    have hn' := List.nodup_cons.1 hn
    have hr := sd_plen x p
    have hpr : ∀ y, ev p y = (y - x) * ev (sd x p).1 y := fun y => by rw [sd_ev x y p, h1, Int.add_zero]
    have hr0 : plen (sd x p).1 ≠ 0 := fun e => by
      have : plen p ≤ 0 := plen_le_of fun k _ => by
        have := ev_inj (p := p) (q := []) (fun y => by rw [hpr, ev_congr (q := []) (fun k => by rw [getD_ge_plen _ k (by omega)]; simp) y, ev_nil, Int.mul_zero]) k
        rw [this]; simp
      omega
    have := roots_le n (sd x p).1 xs (by omega) hr0 hn'.2 (fun y hy => by
      have h2 := hz y (List.mem_cons_of_mem _ hy)
      rw [hpr] at h2
      refine (Int.mul_eq_zero.1 h2).resolve_left fun e => hn'.1 ?_
      rw [show x = y by omega]; exact hy)
    simp only [List.length_cons]
    omega

/-- the bound of the coefficients by values at whole numbers -/
def fbb (X : Nat) : Nat → Nat → Nat
  | V, 0 => V
  | V, n + 1 => (1 + X) * fbb X (2 * V) n + V
theorem fb (X : Nat) : ∀ (n : Nat) (p : List Int) (xs : List Int) (V : Nat), plen p ≤ n + 1 → xs.length = n + 1 → xs.Nodup → (∀ x ∈ xs, x.natAbs ≤ X ∧ (ev p x).natAbs ≤ V) → ∀ j, (p.getD j 0).natAbs ≤ fbb X V n
  | 0, p, xs, V, hp, hl, _, hv, j => by
    match xs, hl with
    | [x], _ =>
      have h1 := (hv x (List.mem_cons_self ..)).2
      have e : ev p x = p.getD 0 0 := by
        rw [ev_congr (q := [p.getD 0 0]) (fun k => ?_) x, ev_const]
        cases k with
        | zero => simp
        | succ k => rw [getD_ge_plen p (k + 1) (by omega)]; simp
      rw [e] at h1
      match j with
      | 0 => exact h1
      | j + 1 => rw [getD_ge_plen p (j + 1) (by omega)]; simp
  | n + 1, p, xs, V, hp, hl, hn, hv, j => by
    match xs, hl with
    | x :: xs, hl =>
      have hn' := List.nodup_cons.1 hn
      obtain ⟨hx, hxv⟩ := hv x (List.mem_cons_self ..)
      have ih := fb X n (sd x p).1 xs (2 * V) (by have := sd_plen x p; omega) (by simpa using hl) hn'.2 (fun y hy => by
        obtain ⟨h1, h2⟩ := hv y (List.mem_cons_of_mem _ hy)
        refine ⟨h1, ?_⟩
        have hne : y - x ≠ 0 := fun e => hn'.1 (by rw [show x = y by omega]; exact hy)
        have h3 := sd_ev x y p
        have h4 : ((y - x) * ev (sd x p).1 y).natAbs ≤ 2 * V := by
          have : (y - x) * ev (sd x p).1 y = ev p y - ev p x := by omega
          rw [this]; omega
        rw [Int.natAbs_mul] at h4
        exact Nat.le_trans (Nat.le_mul_of_pos_left _ (Int.natAbs_pos.2 hne)) h4)
      obtain ⟨g0, g1⟩ := sd_get x p
      have hm : ∀ k, (x * (sd x p).1.getD k 0).natAbs ≤ X * fbb X (2 * V) n := fun k => by rw [Int.natAbs_mul]; exact Nat.mul_le_mul hx (ih k)
      show (p.getD j 0).natAbs ≤ (1 + X) * fbb X (2 * V) n + V
      rw [Nat.add_mul, Nat.one_mul]
      match j with
      | 0 => rw [g0]; have := hm 0; omega
      | j + 1 => rw [g1]; have := hm (j + 1); have := ih j; omega

theorem ev_bd {p : List Int} {M X n : Nat} (hp : plen p ≤ n + 1) (hM : ∀ j, (p.getD j 0).natAbs ≤ M) {x : Int} (hx : x.natAbs ≤ X) (hX : 1 ≤ X) : (ev p x).natAbs ≤ (n + 1) * (M * X ^ n) := by
  have e : ev p x = evn (fun i => p.getD i 0) x (n + 1) := by
    rw [← ev_trim p x, ← ev_ge (ptrim p) x (n := n + 1) (by rw [ptrim_length]; exact hp)]
    exact evn_congr x (fun i => ptrim_getD p i) _
  rw [e]
  suffices h : ∀ k, k ≤ n + 1 → (evn (fun i => p.getD i 0) x k).natAbs ≤ k * (M * X ^ n) from h _ (Nat.le_refl _)
  intro k
  induction k with
  | zero => intro _; simp [evn]
  | succ k ih =>
    intro hk
    have h1 := ih (by omega)
    have h2 : (p.getD k 0 * x ^ k).natAbs ≤ M * X ^ n := by
      rw [Int.natAbs_mul, Int.natAbs_pow]
      exact Nat.mul_le_mul (hM k) (Nat.le_trans (Nat.pow_le_pow_left hx k) (Nat.pow_le_pow_right hX (by omega)))
    have h3 : evn (fun i => p.getD i 0) x (k + 1) = evn (fun i => p.getD i 0) x k + p.getD k 0 * x ^ k := rfl
    rw [h3, Nat.succ_mul]
    have h4 := Int.natAbs_add_le (evn (fun i => p.getD i 0) x k) (p.getD k 0 * x ^ k)
    omega

/-- the numbers 0, 1 .. -/
def ints (n : Nat) : List Int := (List.range n).map (fun (i : Nat) => (i : Int))
theorem ints_nodup (n : Nat) : (ints n).Nodup := by
  unfold ints
  refine List.Pairwise.map _ (fun (a b : Nat) (h : a ≠ b) => ?_) (List.nodup_range (n := n))
  omega
theorem ints_length (n : Nat) : (ints n).length = n := by simp [ints]

theorem filter_two (b : Int → Bool) : ∀ l : List Int, (l.filter b).length + (l.filter (fun x => !b x)).length = l.length
  | [] => rfl
  | a :: l => by
    have := filter_two b l
    cases h : b a <;> simp [h] <;> omega

/-- a factor's coefficients -/
theorem factor_bd {p q g : List Int} {n M : Nat} (hp : plen p ≤ n + 1) (p0 : plen p ≠ 0) (hM : ∀ j, (p.getD j 0).natAbs ≤ M) (h : ∀ x, ev p x = ev g x * ev q x) (j : Nat) :
    (q.getD j 0).natAbs ≤ fbb (2 * n + 1) ((n + 1) * (M * (2 * n + 1) ^ n)) n := by
  have hq : plen q ≤ n + 1 := Nat.le_trans (dvq_plen ⟨1, g, by decide, fun x => by rw [Int.one_mul, h]⟩ p0) hp
  obtain ⟨R, hR⟩ : ∃ R, R = (ints (2 * n + 1)).filter (fun x => decide (ev p x = 0)) := ⟨_, rfl⟩
  obtain ⟨G, hG⟩ : ∃ G, G = (ints (2 * n + 1)).filter (fun x => !decide (ev p x = 0)) := ⟨_, rfl⟩
  have hRl : R.length ≤ n := roots_le n p R hp p0 (by rw [hR]; exact (ints_nodup _).filter _) (fun x hx => by rw [hR] at hx; exact of_decide_eq_true (List.mem_filter.1 hx).2)
  have hsum : R.length + G.length = 2 * n + 1 := by
    rw [hR, hG, filter_two, ints_length]
  have hGn : G.Nodup := by rw [hG]; exact (ints_nodup _).filter _
  refine fb (2 * n + 1) n q (G.take (n + 1)) _ hq (by rw [List.length_take]; omega) (hGn.sublist (List.take_sublist _ _)) (fun x hx => ?_) j
  have hxG := List.mem_of_mem_take hx
  rw [hG] at hxG
  obtain ⟨hx1, hx2⟩ := List.mem_filter.1 hxG
  have hx0 : ev p x ≠ 0 := by simpa using hx2
  have hxa : x.natAbs ≤ 2 * n + 1 := by
    unfold ints at hx1
    obtain ⟨i, hi, rfl⟩ := List.mem_map.1 hx1
    have := List.mem_range.1 hi
    omega
  refine ⟨hxa, ?_⟩
  have h1 := ev_bd hp hM hxa (by omega)
  have h2 : (ev q x).natAbs ≤ (ev p x).natAbs := by
    rw [h x, Int.natAbs_mul]
    have hg : ev g x ≠ 0 := fun e => hx0 (by rw [h x, e, Int.zero_mul])
    exact Nat.le_mul_of_pos_left _ (Int.natAbs_pos.2 hg)
  omega
end Go.Proofs.YtccapbajbniknaaGreat
