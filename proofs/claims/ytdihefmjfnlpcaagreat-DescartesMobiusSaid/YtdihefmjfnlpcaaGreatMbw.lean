/- Slices of int8s; the walk of cylinderlaw15.Poly; what the law DescartesMobius asks, plain. -/
import Derived.Test.YtdihefmjfnlpcaaGreatMve
import Derived.Test.YtdihefmjfnlpcaaGreatIrow
import Derived.Test.YtdihefmjfnlpcaaGreatLes
/- The Mobius transform as the reference makes it, and that it is the program's one. Plain, no program. -/
namespace Go.Proofs.YtdihefmjfnlpcaaGreat

/-- the product, as the reference makes it -/
def rmul (f g : List Int) : List Int := ptrim (polymul (ptrim f) (ptrim g))
theorem rmul_get (f g : List Int) (k : Nat) : (rmul f g).getD k 0 = pc f g k := by
  unfold rmul
  rw [ptrim_getD, polymul_getD, pc_ptrim]
theorem ev_rmul (f g : List Int) (x : Int) : ev (rmul f g) x = ev f x * ev g x := by
  unfold rmul
  rw [ev_trim, ev_mul, ev_trim, ev_trim]
theorem rmul_trim (f g : List Int) : ptrim (rmul f g) = rmul f g := by unfold rmul; rw [ptrim_ptrim]
theorem pc_zero_l {f g : List Int} (hf : ∀ i, f.getD i 0 = 0) (k : Nat) : pc f g k = 0 := by
  unfold pc
  suffices h : ∀ m, pcs f g k m = 0 from h _
  intro m
  induction m with
  | zero => rfl
  | succ m ih => rw [pcs, ih, hf]; omega
theorem pc_zero_r {f g : List Int} (hg : ∀ i, g.getD i 0 = 0) (k : Nat) : pc f g k = 0 := by
  unfold pc
  suffices h : ∀ m, pcs f g k m = 0 from h _
  intro m
  induction m with
  | zero => rfl
  | succ m ih => rw [pcs, ih, hg]; omega
theorem rmul_len {f g : List Int} {a b : Nat} (hf : plen f ≤ a + 1) (hg : plen g ≤ b + 1) : (rmul f g).length ≤ a + b + 1 := by
  unfold rmul
  rw [ptrim_length]
  refine plen_le_of fun k hk => ?_
  rw [polymul_getD, pc_ptrim]
  exact pc_above (a := a) (b := b) (fun i hi => getD_ge_plen f i (by omega)) (fun i hi => getD_ge_plen g i (by omega)) (by omega)
theorem pcs_bd {f g : List Int} {X Y : Nat} (hf : ∀ j, (f.getD j 0).natAbs ≤ X) (hg : ∀ j, (g.getD j 0).natAbs ≤ Y) (k : Nat) : ∀ m, (pcs f g k m).natAbs ≤ m * (X * Y)
  | 0 => by simp [pcs]
  | m + 1 => by
    rw [pcs]
    have h1 := pcs_bd hf hg k m
    have h2 : (f.getD m 0 * g.getD (k - m) 0).natAbs ≤ X * Y := by rw [Int.natAbs_mul]; exact Nat.mul_le_mul (hf m) (hg (k - m))
    have h3 := Int.natAbs_add_le (pcs f g k m) (f.getD m 0 * g.getD (k - m) 0)
    rw [Nat.succ_mul]
    omega

/-- the power, as the reference makes it -/
def rpow (f : List Int) : Nat → List Int
  | 0 => [1]
  | n + 1 => rmul (rpow f n) f
theorem ev_rpow (f : List Int) (x : Int) : ∀ n, ev (rpow f n) x = ev f x ^ n
  | 0 => by rw [rpow, ev_const, Int.pow_zero]
  | n + 1 => by rw [rpow, ev_rmul, ev_rpow f x n, Int.pow_succ]
theorem rpow_len {g : List Int} (hg : plen g ≤ 2) : ∀ n, (rpow g n).length ≤ n + 1
  | 0 => by simp [rpow]
  | n + 1 => by
    have := rmul_len (f := rpow g n) (g := g) (a := n) (b := 1) (by have := plen_le (rpow g n); have := rpow_len hg n; omega) hg
    rw [rpow]; omega
theorem rpow_bd {g : List Int} (hg : plen g ≤ 2) {B : Nat} (hB : (g.getD 0 0).natAbs + (g.getD 1 0).natAbs ≤ B) : ∀ n j, ((rpow g n).getD j 0).natAbs ≤ B ^ n
  | 0, j => by
    match j with
    | 0 => simp [rpow]
    | j + 1 => simp [rpow]
  | n + 1, j => by
    have ih := rpow_bd hg hB n
    rw [rpow, rmul_get, pc_two (fun j hj => getD_ge_plen g j (by omega))]
    have h1 : ((rpow g n).getD j 0 * g.getD 0 0).natAbs ≤ B ^ n * (g.getD 0 0).natAbs := by rw [Int.natAbs_mul]; exact Nat.mul_le_mul_right _ (ih j)
    have h2 : (if j = 0 then 0 else (rpow g n).getD (j - 1) 0 * g.getD 1 0 : Int).natAbs ≤ B ^ n * (g.getD 1 0).natAbs := by
      split
      · simp
      · rw [Int.natAbs_mul]; exact Nat.mul_le_mul_right _ (ih (j - 1))
    have h3 := Int.natAbs_add_le ((rpow g n).getD j 0 * g.getD 0 0) (if j = 0 then 0 else (rpow g n).getD (j - 1) 0 * g.getD 1 0)
    have h4 : B ^ n * (g.getD 0 0).natAbs + B ^ n * (g.getD 1 0).natAbs ≤ B ^ n * B := by rw [← Nat.mul_add]; exact Nat.mul_le_mul_left _ hB
    rw [Nat.pow_succ]
    omega

/-- one term of the sum -/
def rterm (u v : List Int) (n i : Nat) : List Int := rmul (rpow (ptrim u) i) (rpow v (n - i))
/-- the coefficient j after i terms -/
def rsum (f u v : List Int) (n : Nat) : Nat → Nat → Int
  | 0, _ => 0
  | i + 1, j => rsum f u v n i j + f.getD i 0 * (rterm u v n i).getD j 0
section
variable {f u v : List Int} {n : Nat}
theorem rterm_len (hu : plen u ≤ 2) (hv : plen v ≤ 2) {i : Nat} (hi : i ≤ n) : (rterm u v n i).length ≤ n + 1 := by
  have h1 := rpow_len (g := ptrim u) (by rw [plen_ptrim]; exact hu) i
  have h2 := rpow_len hv (n - i)
  have h3 := rmul_len (f := rpow (ptrim u) i) (g := rpow v (n - i)) (a := i) (b := n - i) (by have := plen_le (rpow (ptrim u) i); omega) (by have := plen_le (rpow v (n - i)); omega)
  unfold rterm; omega
theorem rterm_bd (hu : plen u ≤ 2) (hv : plen v ≤ 2) {B : Nat} (h1 : (u.getD 0 0).natAbs + (u.getD 1 0).natAbs ≤ B) (h2 : (v.getD 0 0).natAbs + (v.getD 1 0).natAbs ≤ B) {i : Nat} (hi : i ≤ n) (j : Nat) :
    ((rterm u v n i).getD j 0).natAbs ≤ (n + 1) * B ^ n := by
  by_cases hj : j ≤ n
  · unfold rterm
    rw [rmul_get]
    have b1 := rpow_bd (g := ptrim u) (by rw [plen_ptrim]; exact hu) (B := B) (by rw [ptrim_getD, ptrim_getD]; exact h1) i
    have b2 := rpow_bd hv h2 (n - i)
    have b3 := pcs_bd b1 b2 j (j + 1)
    have e : B ^ i * B ^ (n - i) = B ^ n := by rw [← Nat.pow_add]; congr 1; omega
    rw [e] at b3
    exact Nat.le_trans b3 (Nat.mul_le_mul_right _ (by omega))
  · have := rterm_len hu hv hi
    rw [getD_out _ (by omega)]; simp
theorem rsum_out (hu : plen u ≤ 2) (hv : plen v ≤ 2) {j : Nat} (hj : n < j) : ∀ i, i ≤ n + 1 → rsum f u v n i j = 0
  | 0, _ => rfl
  | i + 1, hi => by
    rw [rsum, rsum_out hu hv hj i (by omega), getD_out (rterm u v n i) (by have := rterm_len hu hv (n := n) (i := i) (by omega); omega)]
    omega
theorem rsum_bd (hu : plen u ≤ 2) (hv : plen v ≤ 2) {B F : Nat} (h1 : (u.getD 0 0).natAbs + (u.getD 1 0).natAbs ≤ B) (h2 : (v.getD 0 0).natAbs + (v.getD 1 0).natAbs ≤ B) (hF : ∀ i, (f.getD i 0).natAbs ≤ F) (j : Nat) :
    ∀ i, i ≤ n + 1 → (rsum f u v n i j).natAbs ≤ i * (F * ((n + 1) * B ^ n))
  | 0, _ => by simp [rsum]
  | i + 1, hi => by
    rw [rsum]
    have ih := rsum_bd hu hv h1 h2 hF j i (by omega)
    have h3 : (f.getD i 0 * (rterm u v n i).getD j 0).natAbs ≤ F * ((n + 1) * B ^ n) := by rw [Int.natAbs_mul]; exact Nat.mul_le_mul (hF i) (rterm_bd hu hv h1 h2 (by omega) j)
    have h4 := Int.natAbs_add_le (rsum f u v n i j) (f.getD i 0 * (rterm u v n i).getD j 0)
    rw [Nat.succ_mul]
    omega
/-- the whole sum -/
def rsl (f u v : List Int) (n : Nat) : List Int := (List.range (n + 1)).map (rsum f u v n (n + 1))
theorem rsl_length : (rsl f u v n).length = n + 1 := by simp [rsl]
theorem rsl_get (hu : plen u ≤ 2) (hv : plen v ≤ 2) (j : Nat) : (rsl f u v n).getD j 0 = rsum f u v n (n + 1) j := by
  by_cases h : j < n + 1
  · simp [rsl, List.getD_eq_getElem?_getD, h]
  · rw [getD_out _ (by rw [rsl_length]; omega), rsum_out hu hv (by omega) _ (Nat.le_refl _)]

/-- the sum of the values -/
def psum (f : List Int) (a b : Int) (n : Nat) : Nat → Int
  | 0 => 0
  | i + 1 => psum f a b n i + f.getD i 0 * (a ^ i * b ^ (n - i))
theorem psum_hv (f : List Int) (a b : Int) (hl : f.length = n + 1) : ∀ k, k ≤ n → psum f a b n (n - k) + hv f a b k * a ^ (n - k) = psum f a b n (n + 1)
  | 0, _ => by
    rw [hv, Nat.sub_zero, psum, hl, Nat.sub_self, Int.pow_zero, Int.mul_one, Nat.add_sub_cancel]
  | k + 1, hk => by
    rw [← psum_hv f a b hl k (by omega), hv, hl]
    obtain ⟨m, hm⟩ : ∃ m, n - (k + 1) = m := ⟨_, rfl⟩
    have e1 : n - k = m + 1 := by omega
    have e2 : n + 1 - 2 - k = m := by omega
    have e3 : n - m = k + 1 := by omega
    rw [e1, e2, hm, psum, e3, Int.pow_succ a m]
    grind
theorem evn_rsum (hu : plen u ≤ 2) (hv : plen v ≤ 2) (x : Int) : ∀ i, i ≤ n + 1 → evn (fun j => rsum f u v n i j) x (n + 1) = psum f (ev u x) (ev v x) n i
  | 0, _ => by
    have h0 := evn_add (fun _ => 0) (fun _ => 0) 0 0 x (n + 1)
    simp only [Int.zero_mul, Int.add_zero] at h0
    rw [psum]
    exact h0
  | i + 1, hi => by
    have h0 := evn_add (fun j => rsum f u v n i j) (fun j => (rterm u v n i).getD j 0) 1 (f.getD i 0) x (n + 1)
    simp only [Int.one_mul] at h0
    have h1 : evn (fun j => rsum f u v n (i + 1) j) x (n + 1) = evn (fun j => rsum f u v n i j + f.getD i 0 * (rterm u v n i).getD j 0) x (n + 1) := rfl
    rw [h1, h0, evn_rsum hu hv x i (by omega), ev_ge _ x (rterm_len hu hv (by omega)), psum]
    unfold rterm
    rw [ev_rmul, ev_rpow, ev_rpow, ev_trim]
theorem ev_rsl (hu : plen u ≤ 2) (hv' : plen v ≤ 2) (hl : f.length = n + 1) (x : Int) : ev (rsl f u v n) x = hv f (ev u x) (ev v x) n := by
  rw [← ev_ge (rsl f u v n) x (n := n + 1) (by rw [rsl_length]; exact Nat.le_refl _), evn_congr x (fun j => rsl_get hu hv' j), evn_rsum hu hv' x _ (Nat.le_refl _)]
  have := psum_hv f (ev u x) (ev v x) hl n (Nat.le_refl _)
  rw [Nat.sub_self, psum, Int.pow_zero, Int.mul_one, Int.zero_add] at this
  exact this.symm
end

theorem pctd_psc {c : Int} (hc : 0 < c) (g : List Int) (k : Nat) : (pctd (psc c g)).getD k 0 = (pctd g).getD k 0 := by
  rw [pctd_get, pctd_get, psc_get, pcont_psc]
  have e : ((c.natAbs * pcont g : Nat) : Int) = c * (pcont g : Int) := by rw [Int.natCast_mul, Int.natAbs_of_nonneg (by omega)]
  rw [e, Int.mul_tdiv_mul_of_pos _ _ hc]
theorem pctd_ext {p q : List Int} (h : ∀ k, p.getD k 0 = q.getD k 0) (k : Nat) : (pctd p).getD k 0 = (pctd q).getD k 0 := by
  rw [pctd_get, pctd_get, h k, pcont_ext (p := p) (q := q) (fun j => by rw [h j])]

/-- what the reference returns -/
def rmob (f : List Int) (a d b e : Int) : List Int := if plen f = 0 ∨ ¬ (a * e < b * d) then [] else pctd (ptrim (rsl (ptrim f) [a * e, b * d] [d * e, d * e] (plen f - 1)))

theorem two_plen (a b : Int) : plen [a, b] ≤ 2 := by have := plen_le [a, b]; simpa using this
theorem ev_pair (a b x : Int) : ev [a, b] x = a + b * x := ev_two a b x

/-- the reference and the program agree -/
theorem rmob_eq {f : List Int} (z0 z1 : Int) (q0 q1 : Nat) {a d b e : Int} {g0 g1 : Nat} (hg0 : 0 < g0) (hg1 : 0 < g1) (ha : z0 * (g0 : Int) = a) (hd : (q0 : Int) * (g0 : Int) = d) (hb : z1 * (g1 : Int) = b) (he : (q1 : Int) * (g1 : Int) = e) (hq0 : 0 < q0) (hq1 : 0 < q1) :
    ptrim (rmob f a d b e) = pmobius (ptrim f) q0 q1 z0 z1 := by
  have hd0 : 0 < d := by rw [← hd]; exact Int.mul_pos (by omega) (by omega)
  have he0 : 0 < e := by rw [← he]; exact Int.mul_pos (by omega) (by omega)
  have hlt : a * e < b * d ↔ z0 * (q1 : Int) < z1 * (q0 : Int) := by
    have e1 : a * e = (g0 : Int) * (g1 : Int) * (z0 * (q1 : Int)) := by rw [← ha, ← he]; grind
    have e2 : b * d = (g0 : Int) * (g1 : Int) * (z1 * (q0 : Int)) := by rw [← hb, ← hd]; grind
    have hp : 0 < (g0 : Int) * (g1 : Int) := Int.mul_pos (by omega) (by omega)
    rw [e1, e2]
    exact ⟨fun h => Int.lt_of_mul_lt_mul_left h (by omega), fun h => Int.mul_lt_mul_of_pos_left h hp⟩
  unfold rmob
  by_cases h : plen f = 0 ∨ ¬ (a * e < b * d)
  · rw [if_pos h]
    unfold pmobius
    rw [if_pos (by rw [plen_ptrim, ← hlt]; exact h)]
    rfl
  · rw [if_neg h]
    have h1 : plen f ≠ 0 := fun e => h (.inl e)
    have h2 : a * e < b * d := Classical.byContradiction fun e => h (.inr e)
    have h3 := hlt.1 h2
    have hp1 : plen (ptrim f) ≠ 0 := by rw [plen_ptrim]; exact h1
    rw [pmobius_at hp1 h3 (ptrim_ptrim f)]
    unfold pmob
    obtain ⟨n, hn⟩ : ∃ n, plen f = n + 1 := ⟨plen f - 1, by omega⟩
    have hl : (ptrim f).length = n + 1 := by rw [ptrim_length]; exact hn
    rw [hl, hn, Nat.add_sub_cancel]
    obtain ⟨c1, c2, c3⟩ := cd_lo z0 z1 hq0 hq1
    generalize cdD q0 q1 z0 z1 = D at *
    generalize cdP q0 q1 z0 z1 = P at *
    generalize cdQ q0 q1 z0 z1 = Q at *
    have e1 : D * (a * e) = d * e * P := by
      rw [← ha, ← hd]
      have : D * (z0 * (g0 : Int) * e) = z0 * D * ((g0 : Int) * e) := by grind
      rw [this, ← c2]; grind
    have e2 : D * (b * d) = d * e * Q := by
      rw [← hb, ← he]
      have : D * (z1 * (g1 : Int) * d) = z1 * D * ((g1 : Int) * d) := by grind
      rw [this, ← c3]; grind
    have hde : 0 < d * e := Int.mul_pos hd0 he0
    have key : ∀ k, (psc (D ^ n) (rsl (ptrim f) [a * e, b * d] [d * e, d * e] n)).getD k 0 = (psc ((d * e) ^ n) (trs (ptrim f) P Q D n).1).getD k 0 := by
      refine ev_inj fun x => ?_
      rw [ev_psc, ev_psc, ev_rsl (two_plen _ _) (two_plen _ _) hl, (tr_ev (ptrim f) P Q D x n).1, ev_pair, ev_pair, ← hv_scale, ← hv_scale]
      have t1 : D * (a * e + b * d * x) = d * e * (P + Q * x) := by rw [Int.mul_add, Int.mul_add, e1, ← Int.mul_assoc D, e2]; grind
      have t2 : D * (d * e + d * e * x) = d * e * (D + D * x) := by grind
      rw [t1, t2]
    refine ptrim_ext fun k => ?_
    rw [pctd_ext (fun j => ptrim_getD _ j), ← pctd_psc (show 0 < D ^ n from Int.pow_pos c1) (rsl (ptrim f) [a * e, b * d] [d * e, d * e] n), pctd_ext key, pctd_psc (show 0 < (d * e) ^ n from Int.pow_pos hde)]
end Go.Proofs.YtdihefmjfnlpcaaGreat

/- The walks of cylinderref11.Mul, Gcd and Normal. -/
namespace Go.Proofs.YtdihefmjfnlpcaaGreat
open Go.RowKit

/-- the list of the values of F below n -/
def tab (n : Nat) (F : Nat → Int) : List Int := (List.range n).map F
theorem tab_length (n : Nat) (F : Nat → Int) : (tab n F).length = n := by simp [tab]
theorem tab_get {n : Nat} (F : Nat → Int) {j : Nat} (h : j < n) : (tab n F).getD j 0 = F j := by simp [tab, List.getD_eq_getElem?_getD, h]
theorem tab_set (n : Nat) (F : Nat → Int) (i : Nat) (x : Int) : (tab n F).set i x = tab n (fun t => if t = i then x else F t) := by
  refine List.ext_getElem? fun j => ?_
  by_cases hj : j < n
  · by_cases h : i = j
    · subst h; simp [tab, hj]
    · simp [tab, hj, h, Ne.symm h]
  · simp [tab, hj]
theorem tab_zero (n : Nat) : List.replicate n (0 : Int) = tab n (fun _ => 0) := by
  refine List.ext_getElem? fun j => ?_
  by_cases hj : j < n <;> simp [tab, hj]
theorem tab_ext {n : Nat} {F G : Nat → Int} (h : ∀ j, j < n → F j = G j) : tab n F = tab n G := List.map_congr_left fun j hj => h j (List.mem_range.1 hj)
theorem tab_self (p : List Int) : tab p.length (fun j => p.getD j 0) = p := by
  refine List.ext_getElem? fun j => ?_
  by_cases hj : j < p.length
  · simp [tab, List.getD_eq_getElem?_getD, hj]
  · simp [tab, hj]

/-- the sum of the first products -/
def rcs (f g : List Int) (j : Nat) : Nat → Int
  | 0 => 0
  | m + 1 => rcs f g j m + (if m ≤ j then f.getD m 0 * g.getD (j - m) 0 else 0)
theorem rcs_pcs (f g : List Int) (j : Nat) : ∀ m, m ≤ j + 1 → rcs f g j m = pcs f g j m
  | 0, _ => rfl
  | m + 1, h => by rw [rcs, pcs, rcs_pcs f g j m (by omega), if_pos (by omega)]
theorem rcs_high (f g : List Int) (j m : Nat) : ∀ d, j + 1 ≤ m → rcs f g j (m + d) = rcs f g j m
  | 0, _ => rfl
  | d + 1, h => by rw [← Nat.add_assoc, rcs, rcs_high f g j m d h, if_neg (by omega), Int.add_zero]
theorem rcs_zero (f g : List Int) (j m : Nat) (h : plen f ≤ m) : ∀ d, rcs f g j (m + d) = rcs f g j m
  | 0 => rfl
  | d + 1 => by rw [← Nat.add_assoc, rcs, rcs_zero f g j m h d, getD_ge_plen f _ (by omega)]; simp
theorem rcs_pc (f g : List Int) (j : Nat) : rcs f g j (plen f) = pc f g j := by
  unfold pc
  rw [← rcs_pcs f g j (j + 1) (Nat.le_refl _)]
  by_cases h : plen f ≤ j + 1
  · obtain ⟨d, hd⟩ : ∃ d, j + 1 = plen f + d := ⟨j + 1 - plen f, by omega⟩
    rw [hd, rcs_zero f g j _ (Nat.le_refl _)]
  · obtain ⟨d, hd⟩ : ∃ d, plen f = j + 1 + d := ⟨plen f - (j + 1), by omega⟩
    rw [hd, rcs_high f g j _ d (Nat.le_refl _)]
theorem rcs_bd {f g : List Int} {X Y : Nat} (hf : ∀ j, (f.getD j 0).natAbs ≤ X) (hg : ∀ j, (g.getD j 0).natAbs ≤ Y) (j : Nat) : ∀ m, (rcs f g j m).natAbs ≤ m * (X * Y)
  | 0 => by simp [rcs]
  | m + 1 => by
    rw [rcs]
    have h1 := rcs_bd hf hg j m
    have h2 : (if m ≤ j then f.getD m 0 * g.getD (j - m) 0 else 0 : Int).natAbs ≤ X * Y := by
      split
      · rw [Int.natAbs_mul]; exact Nat.mul_le_mul (hf m) (hg (j - m))
      · simp
    have h3 := Int.natAbs_add_le (rcs f g j m) (if m ≤ j then f.getD m 0 * g.getD (j - m) 0 else 0)
    rw [Nat.succ_mul]
    omega
theorem rmul_nil_l {f g : List Int} (h : plen f = 0) : rmul f g = [] := by
  have : (ptrim f) = [] := List.eq_nil_of_length_eq_zero (by rw [ptrim_length, h])
  unfold rmul polymul
  rw [if_pos (.inl this)]; rfl
theorem rmul_nil_r {f g : List Int} (h : plen g = 0) : rmul f g = [] := by
  have : (ptrim g) = [] := List.eq_nil_of_length_eq_zero (by rw [ptrim_length, h])
  unfold rmul polymul
  rw [if_pos (.inr this)]; rfl
theorem rmul_tab {f g : List Int} (hf : plen f ≠ 0) (hg : plen g ≠ 0) {n : Nat} (hn : plen f + plen g = n + 1) : ptrim (tab n (pc f g)) = rmul f g := by
  rw [← rmul_trim]
  refine ptrim_ext fun k => ?_
  rw [rmul_get]
  by_cases h : k < n
  · exact tab_get _ h
  · rw [getD_out _ (by rw [tab_length]; omega)]
    exact (pc_above (a := plen f - 1) (b := plen g - 1) (fun i hi => getD_ge_plen f i (by omega)) (fun i hi => getD_ge_plen g i (by omega)) (by omega)).symm
theorem I64At.nil (w : World) (c : Nat) : I64At w none 0 c [] := ⟨rfl, Nat.zero_le _, .inl rfl⟩

set_option maxRecDepth 100000 in
set_option maxHeartbeats 4000000 in
theorem rmul_any (A : Option Addr) (la ca : Nat) (f : List Int) (B : Option Addr) (lb cb : Nat) (g : List Int) (w : World) (hf : I64At w A la ca f) (hg : I64At w B lb cb g) (hma : la ≤ 1000) (hmb : lb ≤ 1000) {X Y : Nat} (hX : ∀ j, (f.getD j 0).natAbs ≤ X) (hY : ∀ j, (g.getD j 0).natAbs ≤ Y) (hXY : X * Y ≤ 1125899906842624) :
    Calls Tryz.prog 52 #[.slice A la ca, .slice B lb cb] w fun e w' => ∃ A' l' c', e = .returned (.slice A' l' c') ∧ I64At w' A' l' c' (rmul f g) ∧ (∀ q, A' = some q → w.heap.size ≤ q.block) ∧ Below w.heap.size w w' := by
  have hla := hf.length
  have hlb := hg.length
  have hpf := plen_le f
  have hpg := plen_le g
  go_enter Tryz.func52, Tryz.ntmps52
  go_wp2_with fail
  refine (rtrim_any _ _ _ _ _ hf (by omega)).mono ?_
  rintro e w1 ⟨rfl, rfl⟩
  go_wp2_with fail
  refine (rtrim_any _ _ _ _ _ hg (by omega)).mono ?_
  rintro e w1 ⟨rfl, rfl⟩
  by_cases hf0 : plen f = 0
  · have Hr := Lib.hid (rmul_nil_l (g := g) hf0)
    rw [hf0]
    clear hX hY hf hg
    go_wp2
    go_ret
    exact ⟨_, _, _, rfl, by rw [Hr.out]; exact I64At.nil _ _, (fun q hq => by cases hq), Below.refl _ _⟩
  by_cases hg0 : plen g = 0
  · have Hr := Lib.hid (rmul_nil_r (f := f) hg0)
    have b1 : ((plen f : Int) == 0) = false := by rw [beq_eq_false_iff_ne]; omega
    rw [hg0]
    clear hX hY hf hg
    go_wp2
    go_ret
    exact ⟨_, _, _, rfl, by rw [Hr.out]; exact I64At.nil _ _, (fun q hq => by cases hq), Below.refl _ _⟩
  obtain ⟨n, hn⟩ : ∃ n, plen f + plen g = n + 1 := ⟨plen f + plen g - 1, by omega⟩
  have Hres := Lib.hid (rmul_tab hf0 hg0 hn)
  have Hend := Lib.hid (rcs_pc f g)
  have Hgz := Lib.hid (fun k (hk : plen g ≤ k) => getD_ge_plen g k hk)
  have Hrb := Lib.hid (rcs_bd hX hY)
  generalize plen f = pf at *
  generalize plen g = pg at *
  have HX := Lib.hid hX
  have HY := Lib.hid hY
  have b1 : ((pf : Int) == 0) = false := by rw [beq_eq_false_iff_ne]; omega
  have b2 : ((pg : Int) == 0) = false := by rw [beq_eq_false_iff_ne]; omega
  have hni : IntKind.i64.wrap ((pf : Int) + (pg : Int) - 1) = (n : Int) := by rw [IntWalk.i64_in _ (by omega)]; omega
  have hni2 : (pf : Int) + (pg : Int) - 1 = (n : Int) := by omega
  have hnb : n ≤ 2000 := by omega
  have Hn := Lib.hid hn
  have Hf := Lib.hid hf
  have Hg := Lib.hid hg
  have lpf : pf ≤ la := by omega
  have lpg : pg ≤ lb := by omega
  have pf0 : 0 < pf := by omega
  have pg0 : 0 < pg := by omega
  clear hX hY hf hg hla hlb hpf hpg hf0 hg0 hn
  go_wp2_with (at_make; refine wpList_make_int _ rfl (.tmp 25) (.tmp 25) rfl n rfl rfl (by omega) ?_)
  intro w1 hz hb1 hsz
  rw [tab_zero] at hz
  have Hz := Lib.hid hz
  have Hb1 := Lib.hid hb1
  clear hz hb1 hsz hni hni2 b1 b2
  go_wp2
  go_loopw [6] (fun s6 wr => ∃ (i : Nat) (F : Nat → Int), i ≤ pf ∧ s6 = .int .i64 (i : Int) ∧ IRow wr w.heap.size (tab n F) ∧ (∀ j, j < n → F j = rcs f g j i) ∧ Below w.heap.size w wr) (fun s6 _ => pf - (intOf s6).toNat)
  case atStart => exact ⟨0, _, Nat.zero_le _, rfl, Hz.out, fun j _ => rfl, Hb1.out⟩
  case round =>
    clear Hz Hb1
    obtain ⟨i, F, hi, rfl, hrow, hF, hbw⟩ := hrel
    obtain ⟨wo, rfl⟩ : ∃ wo : World, wo = wr := ⟨_, rfl⟩
    have Hrow := Lib.hid hrow
    have HF := Lib.hid hF
    have Hbw := Lib.hid hbw
    clear hrow hF hbw
    by_cases hlt : i < pf
    · go_wp2
      go_loopw [7] (fun s7 wx => ∃ (k : Nat) (G : Nat → Int), k ≤ pg ∧ s7 = .int .i64 (k : Int) ∧ IRow wx w.heap.size (tab n G) ∧ (∀ j, j < n → G j = rcs f g j i + (if i ≤ j ∧ j < i + k then f.getD i 0 * g.getD (j - i) 0 else 0)) ∧ Below w.heap.size w wx) (fun s7 _ => pg - (intOf s7).toNat)
      case atStart => exact ⟨0, F, Nat.zero_le _, rfl, Hrow.out, fun j hj => by rw [HF.out j hj, if_neg (by omega), Int.add_zero], Hbw.out⟩
      case round =>
        clear Hrow HF Hbw
        obtain ⟨k, G, hk, rfl, hrow, hG, hbx⟩ := hrel
        have Hrow := Lib.hid hrow
        have HG := Lib.hid hG
        have Hbx := Lib.hid hbx
        by_cases hkg : k < pg
        · obtain ⟨c1, o1, rfl, hb1, hc1⟩ := Hf.out.at_ (by omega)
          obtain ⟨c2, o2, rfl, hb2, hc2⟩ := Hg.out.at_ (by omega)
          have e1 := (hbx.cell (p := ⟨c1, o1 + i, none⟩) hb1).trans (hc1 i (by omega))
          have e2 := (hbx.cell (p := ⟨c2, o2 + k, none⟩) hb2).trans (hc2 k (by omega))
          have hik : i + k < n := by have := Hn.out; omega
          have e3 := hrow.cell (i := i + k) (by rw [tab_length]; exact hik)
          rw [tab_get _ hik] at e3
          have f3 := hrow.frozen (i + k)
          have hGv := hG (i + k) hik
          rw [if_neg (by omega), Int.add_zero] at hGv
          have hB := Hrb.out (i + k) i
          rw [← hGv] at hB
          have hmx : i * (X * Y) ≤ 1000 * 1125899906842624 := Nat.mul_le_mul (by omega) hXY
          have hp : (f.getD i 0 * g.getD k 0).natAbs ≤ X * Y := by rw [Int.natAbs_mul]; exact Nat.mul_le_mul (HX.out i) (HY.out k)
          have hfx : (f.getD i 0).natAbs ≤ (f.getD i 0).natAbs := Nat.le_refl _
          have HGv := Lib.hid hGv
          obtain ⟨v, hv⟩ : ∃ v, v = G (i + k) := ⟨_, rfl⟩
          obtain ⟨x, hx⟩ : ∃ x, x = f.getD i 0 := ⟨_, rfl⟩
          obtain ⟨y, hy⟩ : ∃ y, y = g.getD k 0 := ⟨_, rfl⟩
          rw [← hv] at e3 hB
          rw [← hx] at e1 hp
          rw [← hy] at e2 hp
          have Hv := Lib.hid hv
          have Hx := Lib.hid hx
          have Hy := Lib.hid hy
          have nb1 : w.heap.size ≠ c1 := by omega
          have nb2 : w.heap.size ≠ c2 := by omega
          have i1 : IntKind.i64.wrap ((i : Int) + (k : Int)) = ((i + k : Nat) : Int) := by rw [IntWalk.i64_in _ (by omega)]; omega
          have i2 : (i : Int) + (k : Int) = ((i + k : Nat) : Int) := by omega
          obtain ⟨m, hm⟩ : ∃ m, m = i + k := ⟨_, rfl⟩
          rw [← hm] at e3 f3 i1 i2 hik
          have i3 : ((i + k : Nat) : Int) = (m : Int) := by rw [hm]
          have i4 : IntKind.i64.wrap (m : Int) = (m : Int) := IntWalk.i64_in _ (by omega)
          have i5 : (m : Int) < (n : Int) := by omega
          have i6 : (i : Int) < (pf : Int) := by omega
          have i7 : (k : Int) < (pg : Int) := by omega
          have i9 : IntKind.i64.wrap (x * y) = x * y := IntWalk.i64_in _ (by omega)
          have i10 : IntKind.i64.wrap (v + x * y) = v + x * y := IntWalk.i64_in _ (by omega)
          have Hm := Lib.hid hm
          clear hrow hG hbx hc1 hc2 hb1 hb2 hGv hv hx hy hm hfx hB hp hmx hXY
          go_wp2_with fail
          refine wp_region_last (S := fun w' => w'.cell? ⟨c1, o1 + i, none⟩ = some (.int .i64 x) ∧ w'.cell? ⟨c2, o2 + k, none⟩ = some (.int .i64 y) ∧ w'.cell? ⟨w.heap.size, m, none⟩ = some (.int .i64 v)) (by kernel_rfl) (by kernel_rfl) (by (try dsimp only); refine ⟨?_, ?_, ?_⟩ <;> go_simp) (fun hHeld => ?_)
          simp only [List.pop_toArray, List.dropLast]
          (refine take_at (i := 0) (oi := _) (v := ?_) rfl rfl (by kernel_rfl) (by kernel_rfl) (by kernel_rfl) (fun _ _ _ h => h) (Or.inl ⟨by rfl, ?_⟩) (by assumption) ?_; rotate_left; (focus (intro w hSw; (try dsimp only at hSw); go_simp; (try with_reducible rfl))); (simp only [put_lit, List.set]))
          (refine take_at (i := 1) (oi := _) (v := ?_) rfl rfl (by kernel_rfl) (by kernel_rfl) (by kernel_rfl) (fun _ _ _ h => h) (Or.inl ⟨by rfl, ?_⟩) (by assumption) ?_; rotate_left; (focus (intro w hSw; (try dsimp only at hSw); go_simp; (try with_reducible rfl))); (simp only [put_lit, List.set]))
          (refine take_at (i := 2) (oi := _) (v := ?_) rfl rfl (by kernel_rfl) (by kernel_rfl) (by kernel_rfl) (fun _ _ _ h => h) (Or.inl ⟨by rfl, ?_⟩) (by assumption) ?_; rotate_left; (focus (intro w hSw; (try dsimp only at hSw); go_simp; (try with_reducible rfl))); (simp only [put_lit, List.set]))
          (refine take_at (i := 3) (oi := _) (v := ?_) rfl rfl (by kernel_rfl) (by kernel_rfl) (by kernel_rfl) (fun _ _ _ h => h) (Or.inl ⟨by rfl, ?_⟩) (by assumption) ?_; rotate_left; (focus (intro w hSw; (try dsimp only at hSw); go_simp; (try with_reducible rfl))); (simp only [put_lit, List.set]))
          (refine take_at (i := 4) (oi := _) (v := ?_) rfl rfl (by kernel_rfl) (by kernel_rfl) (by kernel_rfl) (fun _ _ _ h => h) (Or.inl ⟨by rfl, ?_⟩) (by assumption) ?_; rotate_left; (focus (intro w hSw; (try dsimp only at hSw); go_simp; (try with_reducible rfl))); (simp only [put_lit, List.set]))
          (refine take_at (i := 5) (oi := _) (v := ?_) rfl rfl (by kernel_rfl) (by kernel_rfl) (by kernel_rfl) (fun _ _ _ h => h) (Or.inl ⟨by rfl, ?_⟩) (by assumption) ?_; rotate_left; (focus (intro w hSw; (try dsimp only at hSw); go_simp; (try with_reducible rfl))); (simp only [put_lit, List.set]))
          (refine take_at (i := 6) (oi := _) (v := ?_) rfl rfl (by kernel_rfl) (by kernel_rfl) (by kernel_rfl) (fun _ _ _ h => h) (Or.inl ⟨by rfl, ?_⟩) (by assumption) ?_; rotate_left; (focus (intro w hSw; (try dsimp only at hSw); go_simp; (try with_reducible rfl))); (simp only [put_lit, List.set]))
          (refine take_at (i := 7) (oi := _) (v := ?_) rfl rfl (by kernel_rfl) (by kernel_rfl) (by kernel_rfl) (fun _ _ _ h => h) (Or.inl ⟨by rfl, ?_⟩) (by assumption) ?_; rotate_left; (focus (intro w hSw; (try dsimp only at hSw); go_simp; (try with_reducible rfl))); (simp only [put_lit, List.set]))
          (refine take_at (i := 8) (oi := _) (v := ?_) rfl rfl (by kernel_rfl) (by kernel_rfl) (by kernel_rfl) (fun _ _ _ h => h) (Or.inl ⟨by rfl, ?_⟩) (by assumption) ?_; rotate_left; (focus (intro w hSw; (try dsimp only at hSw); go_simp; (try with_reducible rfl))); (simp only [put_lit, List.set]))
          (refine take_at (i := 9) (oi := _) (v := ?_) rfl rfl (by kernel_rfl) (by kernel_rfl) (by kernel_rfl) (fun _ _ _ h => h) (Or.inl ⟨by rfl, ?_⟩) (by assumption) ?_; rotate_left; (focus (intro w hSw; (try dsimp only at hSw); go_simp; (try with_reducible rfl))); (simp only [put_lit, List.set]))
          (refine take_at (i := 10) (oi := _) (v := ?_) rfl rfl (by kernel_rfl) (by kernel_rfl) (by kernel_rfl) (fun _ _ _ h => h) (Or.inl ⟨by rfl, ?_⟩) (by assumption) ?_; rotate_left; (focus (intro w hSw; (try dsimp only at hSw); go_simp; (try with_reducible rfl))); (simp only [put_lit, List.set]))
          (refine take_at (i := 11) (oi := _) (v := ?_) rfl rfl (by kernel_rfl) (by kernel_rfl) (by kernel_rfl) (fun _ _ _ h => h) (Or.inl ⟨by rfl, ?_⟩) (by assumption) ?_; rotate_left; (focus (intro w hSw; (try dsimp only at hSw); go_simp; (try with_reducible rfl))); (simp only [put_lit, List.set]))
          (refine take_at (i := 12) (oi := _) (v := ?_) rfl rfl (by kernel_rfl) (by kernel_rfl) (by kernel_rfl) (fun _ _ _ h => h) (Or.inl ⟨by rfl, ?_⟩) (by assumption) ?_; rotate_left; (focus (intro w hSw; (try dsimp only at hSw); go_simp; (try with_reducible rfl))); (simp only [put_lit, List.set]))
          (refine take_at (i := 13) (oi := _) (v := ?_) rfl rfl (by kernel_rfl) (by kernel_rfl) (by kernel_rfl) (fun _ _ _ h => h) (Or.inl ⟨by rfl, ?_⟩) (by assumption) ?_; rotate_left; (focus (intro w hSw; (try dsimp only at hSw); go_simp; (try with_reducible rfl))); (simp only [put_lit, List.set]))
          (refine take_at (i := 14) (oi := _) (v := ?_) rfl rfl (by kernel_rfl) (by kernel_rfl) (by kernel_rfl) (fun _ _ _ h => h) (Or.inl ⟨by rfl, ?_⟩) (by assumption) ?_; rotate_left; (focus (intro w hSw; (try dsimp only at hSw); go_simp; (try with_reducible rfl))); (simp only [put_lit, List.set]))
          (refine take_at (i := 15) (oi := _) (v := ?_) rfl rfl (by kernel_rfl) (by kernel_rfl) (by kernel_rfl) (fun _ _ _ h => h) (Or.inl ⟨by rfl, ?_⟩) (by assumption) ?_; rotate_left; (focus (intro w hSw; (try dsimp only at hSw); go_simp; (try with_reducible rfl))); (simp only [put_lit, List.set]))
          (refine take_at (i := 16) (oi := _) (v := ?_) rfl rfl (by kernel_rfl) (by kernel_rfl) (by kernel_rfl) (fun _ _ _ h => h) (Or.inl ⟨by rfl, ?_⟩) (by assumption) ?_; rotate_left; (focus (intro w hSw; (try dsimp only at hSw); go_simp; (try with_reducible rfl))); (simp only [put_lit, List.set]))
          refine wpAnyH_done (by kernel_rfl) (lastQ_list rfl ?_) _
          clear hHeld
          go_wp2_with fail
          have hr2 := Hrow.out.drew.set_ m (v + x * y)
          rw [tab_set] at hr2
          have Hr2 := Lib.hid hr2
          clear hr2
          go_roundw
          case rel =>
            refine ⟨k + 1, _, by omega, by go_num, Hr2.out, fun j hj => ?_, Hbx.out.trans (by (repeat (first | exact Below.refl _ _ | refine Below.drew ?_ | refine Below.alloc ?_ (by first | (simp; done) | (simp; omega) | omega) _ | refine Below.setCell ?_ (by first | (simp; done) | (simp; omega) | omega) _)))⟩
            by_cases hjm : j = m
            · subst hjm
              rw [if_pos rfl, if_pos (by have := Hm.out; omega), Hv.out, Hx.out, Hy.out, Hm.out, HGv.out, show i + k - i = k by omega]
            · rw [if_neg hjm, HG.out j hj]
              by_cases hc : i ≤ j ∧ j < i + k
              · rw [if_pos hc, if_pos (by omega)]
              · rw [if_neg hc, if_neg (by have := Hm.out; omega)]
          case measure => simp [intOf]; omega
        · have hkk : k = pg := by omega
          clear hrow hG hbx
          go_wp2
          go_roundw
          case rel =>
            refine ⟨i + 1, G, by omega, by go_num, Hrow.out, fun j hj => ?_, Hbx.out⟩
            rw [HG.out j hj, rcs]
            by_cases hij : i ≤ j
            · rw [if_pos hij]
              by_cases hj2 : j < i + k
              · rw [if_pos ⟨hij, hj2⟩]
              · rw [if_neg (fun h => hj2 h.2), Hgz.out (j - i) (by omega), Int.mul_zero]
            · rw [if_neg hij, if_neg (fun h => hij h.1)]
          case measure => simp [intOf]; omega
    · have hii : i = pf := by omega
      have ht : tab n F = tab n (pc f g) := tab_ext fun j hj => by rw [HF.out j hj, hii, Hend.out]
      have hat := Hrow.out.at_ (cap := n) (by rw [tab_length]; exact Nat.le_refl _)
      rw [tab_length, ht] at hat
      have Hat := Lib.hid hat
      have hpl : plen (tab n (pc f g)) ≤ n := by have := plen_le (tab n (pc f g)); rw [tab_length] at this; exact this
      clear HF Hrow ht
      go_wp2_with fail
      refine (rtrim_any _ _ _ _ _ hat (by omega)).mono ?_
      rintro e w2 ⟨rfl, rfl⟩
      have Hfin := Lib.hid (hat.take hpl)
      clear hat
      go_wp2
      go_ret
      refine ⟨_, _, _, rfl, ?_, (fun q hq => by cases hq; exact Nat.le_refl _), Hbw.out⟩
      rw [← Hres.out]
      exact Hfin.out
end Go.Proofs.YtdihefmjfnlpcaaGreat

/- The walks of cylinderref11.Gcd and Normal. -/
namespace Go.Proofs.YtdihefmjfnlpcaaGreat
open Go.RowKit

set_option maxRecDepth 100000 in
theorem rgcd_any (a b : Int) (w : World) (ha : a.natAbs ≤ 4611686018427387904) (hb : b.natAbs ≤ 4611686018427387904) :
    Calls Tryz.prog 85 #[.int .i64 a, .int .i64 b] w fun e w' => e = .returned (.int .i64 ((Nat.gcd a.natAbs b.natAbs : Nat) : Int)) ∧ w = w' := by
  obtain ⟨x, hx⟩ : ∃ x : Nat, x = a.natAbs := ⟨_, rfl⟩
  obtain ⟨y, hy⟩ : ∃ y : Nat, y = b.natAbs := ⟨_, rfl⟩
  rw [← hx] at ha ⊢
  rw [← hy] at hb ⊢
  have wx : IntKind.i64.wrap (x : Int) = (x : Int) := IntWalk.i64_in _ (by omega)
  have wy : IntKind.i64.wrap (y : Int) = (y : Int) := IntWalk.i64_in _ (by omega)
  rcases (show (a = -(x : Int) ∧ 0 < x) ∨ a = (x : Int) by omega) with ⟨rfl, hx0⟩ | rfl <;>
  rcases (show (b = -(y : Int) ∧ 0 < y) ∨ b = (y : Int) by omega) with ⟨rfl, hy0⟩ | rfl <;>
  clear hx hy <;>
  ( go_enter Tryz.func85, Tryz.ntmps85
    go_wp2
    go_loop [0, 1] (fun u v => ∃ p q : Nat, u = .int .i64 (p : Int) ∧ v = .int .i64 (q : Int) ∧ Nat.gcd p q = Nat.gcd x y ∧ p ≤ 4611686018427387904 ∧ q ≤ 4611686018427387904) (fun _ v => (intOf v).toNat)
    case atStart => exact ⟨x, y, by go_num, by go_num, rfl, ha, hb⟩
    case round =>
      obtain ⟨p, q, rfl, rfl, hg, hp, hq⟩ := hrel
      have Hg := Lib.hid hg
      clear hg
      by_cases h0 : q = 0
      · subst h0
        clear wx wy
        go_wp2
        go_ret
        exact ⟨by rw [← Hg.out, Nat.gcd_zero_right]; rfl, rfl⟩
      · obtain ⟨r, hr⟩ : ∃ r, r = p % q := ⟨_, rfl⟩
        have hrq : r < q := by rw [hr]; exact Nat.mod_lt _ (by omega)
        have b0 : ((q : Int) == 0) = false := by rw [beq_eq_false_iff_ne]; omega
        have d1 : Int.tmod (p : Int) (q : Int) = (r : Int) := by rw [hr]; rfl
        have d2 : IntKind.i64.wrap (r : Int) = (r : Int) := IntWalk.i64_in _ (by omega)
        have t0 : (0 : Int) < (q : Int) := by omega
        have Hr := Lib.hid hr
        clear hr wx wy
        go_wp2
        go_round
        case rel => exact ⟨q, r, by go_num, by go_num, by rw [← Hg.out, Hr.out, Nat.gcd_comm p q, Nat.gcd_rec q p, Nat.gcd_comm], hq, by omega⟩
        case measure => simp [intOf]; omega )

/-- the greatest common divisor of the first coefficients -/
def rgc (p : List Int) : Nat → Nat
  | 0 => 0
  | i + 1 => Nat.gcd (rgc p i) (p.getD i 0).natAbs
theorem rgc_le (p : List Int) : ∀ i j, j < i → rgc p i ∣ (p.getD j 0).natAbs
  | i + 1, j, h => by
    rw [rgc]
    by_cases hj : j = i
    · subst hj; exact Nat.gcd_dvd_right _ _
    · exact Nat.dvd_trans (Nat.gcd_dvd_left _ _) (rgc_le p i j (by omega))
theorem dvd_rgc {d : Nat} {p : List Int} (h : ∀ k, d ∣ (p.getD k 0).natAbs) : ∀ i, d ∣ rgc p i
  | 0 => Nat.dvd_zero _
  | i + 1 => Nat.dvd_gcd (dvd_rgc h i) (h i)
theorem rgc_eq (p : List Int) : rgc p (plen p) = pcont p := Nat.dvd_antisymm (dvd_pcont fun k => by
  by_cases h : k < plen p
  · exact rgc_le p _ k h
  · rw [getD_ge_plen p k (by omega)]; exact Nat.dvd_zero _) (dvd_rgc (pcont_get p) _)
theorem rgc_bd {p : List Int} {M : Nat} (hM : ∀ j, (p.getD j 0).natAbs ≤ M) : ∀ i, rgc p i ≤ M
  | 0 => Nat.zero_le _
  | i + 1 => by
    rw [rgc]
    by_cases h : (p.getD i 0).natAbs = 0
    · rw [h, Nat.gcd_zero_right]; exact rgc_bd hM i
    · exact Nat.le_trans (Nat.gcd_le_right _ (by omega)) (hM i)
/-- the factor that Normal takes out -/
def rnu (p : List Int) : Int := if plead p < 0 then -(pcont p : Int) else (pcont p : Int)

set_option maxRecDepth 100000 in
set_option maxHeartbeats 4000000 in
theorem rnorm_zero (A : Option Addr) (len cap : Nat) (p : List Int) (w : World) (h : I64At w A len cap p) (hm : len ≤ 1000) (h0 : plen p = 0) :
    Calls Tryz.prog 54 #[.slice A len cap] w fun e w' => e = .returned (.tuple #[.int .i64 0, .slice none 0 0]) ∧ w = w' := by
  go_enter Tryz.func54, Tryz.ntmps54
  go_wp2_with fail
  refine (rtrim_any _ _ _ _ _ h (by omega)).mono ?_
  rintro e w1 ⟨rfl, rfl⟩
  rw [h0]
  clear h h0
  go_wp2
  refine bodyPost_ret (v := .tuple #[.int .i64 0, .slice none 0 0]) (by simp [results, Tryz.results54, go_sem]) rfl ⟨rfl, rfl⟩

set_option maxRecDepth 100000 in
set_option maxHeartbeats 4000000 in
theorem rnorm_any (A : Option Addr) (len cap : Nat) (p : List Int) (w : World) (h : I64At w A len cap p) (hm : len ≤ 1000) (h0 : plen p ≠ 0) (hM : ∀ j, (p.getD j 0).natAbs ≤ 2305843009213693952) :
    Calls Tryz.prog 54 #[.slice A len cap] w fun e w' => e = .returned (.tuple #[.int .i64 (rnu p), .slice (some ⟨w.heap.size, 0, none⟩) (plen p) (plen p)]) ∧ IRow w' w.heap.size (tab (plen p) (fun j => (p.getD j 0).tdiv (rnu p))) ∧ Below w.heap.size w w' := by
  have hlen := h.length
  have hpl := plen_le p
  have Hgc := Lib.hid (rgc_eq p)
  have Hgb := Lib.hid (rgc_bd hM)
  have hne := pcont_ne h0
  have hcb := rgc_bd hM (plen p)
  rw [rgc_eq] at hcb
  have hld : plead p = p.getD (plen p - 1) 0 := rfl
  obtain ⟨u, hu⟩ : ∃ u, u = rnu p := ⟨_, rfl⟩
  have hu2 := hu
  unfold rnu at hu2
  rw [hld] at hu2
  rw [← hu]
  generalize hn : plen p = n at *
  generalize hgc : pcont p = gc at *
  have Hp := Lib.hid h
  have Hbd := Lib.hid hM
  have lnl : n ≤ len := by omega
  have hn1 : 0 < n := by omega
  go_enter Tryz.func54, Tryz.ntmps54
  go_wp2_with fail
  refine (rtrim_any _ _ _ _ _ h (by omega)).mono ?_
  rintro e w1 ⟨rfl, rfl⟩
  rw [hn]
  have b1 : ((n : Int) == 0) = false := by rw [beq_eq_false_iff_ne]; omega
  clear h hM hu hld hn hgc hpl hlen h0
  go_wp2
  go_loop [4, 5] (fun s4 s5 => ∃ i : Nat, i ≤ n ∧ s4 = .int .i64 ((rgc p i : Nat) : Int) ∧ s5 = .int .i64 (i : Int)) (fun _ s5 => n - (intOf s5).toNat)
  case atStart => exact ⟨0, Nat.zero_le _, rfl, rfl⟩
  case round =>
    obtain ⟨i, hi, rfl, rfl⟩ := hrel
    by_cases hlt : i < n
    · obtain ⟨b, off, rfl, hb, hcc⟩ := Hp.out.at_ (by omega)
      have e1 := hcc i (by omega)
      have Hst := Lib.hid (show rgc p (i + 1) = Nat.gcd (rgc p i) (p.getD i 0).natAbs from rfl)
      have hb1 := Hgb.out i
      have hb2 := Hbd.out i
      obtain ⟨g, hg⟩ : ∃ g, g = rgc p i := ⟨_, rfl⟩
      obtain ⟨y, hy⟩ : ∃ y, y = p.getD i 0 := ⟨_, rfl⟩
      rw [← hg] at hb1 ⊢
      rw [← hy] at e1 hb2
      have Hg := Lib.hid hg
      have Hy := Lib.hid hy
      have i6 : (i : Int) < (n : Int) := by omega
      clear hcc hb hg hy hu2 hne hcb b1
      go_wp2_with fail
      refine (rgcd_any _ _ _ (by omega) (by omega)).mono ?_
      rintro e w1 ⟨rfl, rfl⟩
      rw [Int.natAbs_natCast]
      have hst := Hst.out
      rw [← Hg.out, ← Hy.out] at hst
      rw [← hst]
      have Hst2 := Lib.hid hst
      clear hst
      go_wp2
      go_round
      case rel => exact ⟨i + 1, by omega, rfl, by go_num⟩
      case measure => simp [intOf]; omega
    · have hin : n = i := by omega
      subst hin
      rw [Hgc.out]
      obtain ⟨b, off, hA, hb, hcc⟩ := Hp.out.at_ (by omega)
      subst hA
      have e0 := hcc (n - 1) (by omega)
      have Hcc := Lib.hid hcc
      have Hbl := Lib.hid hb
      clear hcc
      obtain ⟨m, hm⟩ : ∃ m, n = m + 1 := ⟨n - 1, by omega⟩
      have i1 : IntKind.i64.wrap ((n : Int) - 1) = (m : Int) := by rw [IntWalk.i64_in _ (by omega)]; omega
      have i2 : (n : Int) - 1 = (m : Int) := by omega
      have i3 : (m : Int) < (n : Int) := by omega
      have i4 : IntKind.i64.wrap (m : Int) = (m : Int) := IntWalk.i64_in _ (by omega)
      rw [show n - 1 = m by omega] at e0 hu2
      obtain ⟨x, hx⟩ : ∃ x, x = p.getD m 0 := ⟨_, rfl⟩
      rw [← hx] at e0 hu2
      have hu0 : (u == 0) = false := by rw [beq_eq_false_iff_ne, hu2]; split <;> omega
      have hubd : u.natAbs ≤ 2305843009213693952 := by rw [hu2]; split <;> omega
      have hune : ¬ u = 0 := by rw [hu2]; split <;> omega
      have hwu : IntKind.i64.wrap u = u := IntWalk.i64_in _ (by omega)
      have Hm := Lib.hid hm
      clear hx hm hb hn1 hi hlt Hgb Hgc b1
      rename_i hlen2
      by_cases hx0 : x < 0
      · rw [if_pos hx0] at hu2
        have hgu : IntKind.i64.wrap (-(gc : Int)) = u := by rw [hu2]; exact IntWalk.i64_in _ (by omega)
        have hgu2 : -(gc : Int) = u := hu2.symm
        clear hu2 hne hcb
        go_wp2_with (at_make; refine wpList_make_int _ rfl (.tmp 35) (.tmp 35) rfl n rfl rfl (by omega) ?_)
        intro w1 hz hb1 hsz
        rw [tab_zero] at hz
        have Hz := Lib.hid hz
        have Hb1 := Lib.hid hb1
        have hgr : w.heap.size < w1.heap.size := by omega
        clear hz hb1 hsz hgu hgu2 e0
        go_wp2
        go_loopw [7] (fun s7 wr => ∃ (k : Nat), k ≤ n ∧ s7 = .int .i64 (k : Int) ∧ IRow wr w.heap.size (tab n (fun j => if j < k then (p.getD j 0).tdiv u else 0)) ∧ Below w.heap.size w wr) (fun s7 _ => n - (intOf s7).toNat)
        case atStart => exact ⟨0, Nat.zero_le _, rfl, by rw [tab_ext (G := fun _ => 0) (fun j _ => if_neg (by omega))]; exact Hz.out, Hb1.out⟩
        case round =>
          clear Hz Hb1 hgr
          obtain ⟨k, hk, rfl, hrow, hbw⟩ := hrel
          have Hrow := Lib.hid hrow
          have Hbw := Lib.hid hbw
          by_cases hlt : k < n
          · have hb := Hbl.out
            have e1 := (hbw.cell (p := ⟨b, off + k, none⟩) hb).trans (Hcc.out k (by omega))
            have e2 := hrow.cell (i := k) (by rw [tab_length]; exact hlt)
            have f2 := hrow.frozen k
            have hbd := Hbd.out k
            obtain ⟨y, hy⟩ : ∃ y, y = p.getD k 0 := ⟨_, rfl⟩
            rw [← hy] at e1 hbd
            obtain ⟨q, hq⟩ : ∃ q, q = y.tdiv u := ⟨_, rfl⟩
            have hqb : q.natAbs ≤ y.natAbs := by rw [hq, Int.natAbs_tdiv]; exact Nat.div_le_self _ _
            have d1 : Int.tdiv y u = q := hq.symm
            have d2 : IntKind.i64.wrap q = q := IntWalk.i64_in _ (by omega)
            have Hy := Lib.hid hy
            have Hq := Lib.hid hq
            have nb : w.heap.size ≠ b := by omega
            have i6 : (k : Int) < (n : Int) := by omega
            clear hrow hbw hb hy hq hqb hbd
            go_wp2_with fail
            have hr2 := Hrow.out.set_ k q
            rw [tab_set] at hr2
            have Hr2 := Lib.hid hr2
            clear hr2
            go_roundw
            case rel =>
              refine ⟨k + 1, by omega, by go_num, ?_, Hbw.out.trans (by (repeat (first | exact Below.refl _ _ | refine Below.drew ?_ | refine Below.alloc ?_ (by first | (simp; done) | (simp; omega) | omega) _ | refine Below.setCell ?_ (by first | (simp; done) | (simp; omega) | omega) _)))⟩
              rw [tab_ext (G := fun t => if t = k then q else if t < k then (p.getD t 0).tdiv u else 0) (fun j _ => ?_)]
              · exact Hr2.out
              · by_cases hjk : j = k
                · subst hjk
                  rw [if_pos (by omega), if_pos rfl, Hq.out, Hy.out]
                · rw [if_neg hjk]
                  by_cases hl : j < k
                  · rw [if_pos (by omega), if_pos hl]
                  · rw [if_neg (by omega), if_neg hl]
            case measure => simp [intOf]; omega
          · have hkn : k = n := by omega
            subst hkn
            rw [tab_ext (G := fun j => (p.getD j 0).tdiv u) (fun j hj => if_pos hj)] at hrow
            have Hrow := Lib.hid hrow
            clear hrow hbw
            go_wp2
            refine bodyPost_ret (v := .tuple #[.int .i64 u, .slice (some ⟨w.heap.size, 0, none⟩) k k]) (by simp [results, Tryz.results54, go_sem]) rfl ⟨rfl, Hrow.out, Hbw.out⟩
      · rw [if_neg hx0] at hu2
        have hgu : (gc : Int) = u := hu2.symm
        clear hu2 hne hcb
        rw [hgu]
        go_wp2_with (at_make; refine wpList_make_int _ rfl (.tmp 35) (.tmp 35) rfl n rfl rfl (by omega) ?_)
        intro w1 hz hb1 hsz
        rw [tab_zero] at hz
        have Hz := Lib.hid hz
        have Hb1 := Lib.hid hb1
        have hgr : w.heap.size < w1.heap.size := by omega
        clear hz hb1 hsz hgu e0
        go_wp2
        go_loopw [7] (fun s7 wr => ∃ (k : Nat), k ≤ n ∧ s7 = .int .i64 (k : Int) ∧ IRow wr w.heap.size (tab n (fun j => if j < k then (p.getD j 0).tdiv u else 0)) ∧ Below w.heap.size w wr) (fun s7 _ => n - (intOf s7).toNat)
        case atStart => exact ⟨0, Nat.zero_le _, rfl, by rw [tab_ext (G := fun _ => 0) (fun j _ => if_neg (by omega))]; exact Hz.out, Hb1.out⟩
        case round =>
          clear Hz Hb1 hgr
          obtain ⟨k, hk, rfl, hrow, hbw⟩ := hrel
          have Hrow := Lib.hid hrow
          have Hbw := Lib.hid hbw
          by_cases hlt : k < n
          · have hb := Hbl.out
            have e1 := (hbw.cell (p := ⟨b, off + k, none⟩) hb).trans (Hcc.out k (by omega))
            have e2 := hrow.cell (i := k) (by rw [tab_length]; exact hlt)
            have f2 := hrow.frozen k
            have hbd := Hbd.out k
            obtain ⟨y, hy⟩ : ∃ y, y = p.getD k 0 := ⟨_, rfl⟩
            rw [← hy] at e1 hbd
            obtain ⟨q, hq⟩ : ∃ q, q = y.tdiv u := ⟨_, rfl⟩
            have hqb : q.natAbs ≤ y.natAbs := by rw [hq, Int.natAbs_tdiv]; exact Nat.div_le_self _ _
            have d1 : Int.tdiv y u = q := hq.symm
            have d2 : IntKind.i64.wrap q = q := IntWalk.i64_in _ (by omega)
            have Hy := Lib.hid hy
            have Hq := Lib.hid hq
            have nb : w.heap.size ≠ b := by omega
            have i6 : (k : Int) < (n : Int) := by omega
            clear hrow hbw hb hy hq hqb hbd
            go_wp2_with fail
            have hr2 := Hrow.out.set_ k q
            rw [tab_set] at hr2
            have Hr2 := Lib.hid hr2
            clear hr2
            go_roundw
            case rel =>
              refine ⟨k + 1, by omega, by go_num, ?_, Hbw.out.trans (by (repeat (first | exact Below.refl _ _ | refine Below.drew ?_ | refine Below.alloc ?_ (by first | (simp; done) | (simp; omega) | omega) _ | refine Below.setCell ?_ (by first | (simp; done) | (simp; omega) | omega) _)))⟩
              rw [tab_ext (G := fun t => if t = k then q else if t < k then (p.getD t 0).tdiv u else 0) (fun j _ => ?_)]
              · exact Hr2.out
              · by_cases hjk : j = k
                · subst hjk
                  rw [if_pos (by omega), if_pos rfl, Hq.out, Hy.out]
                · rw [if_neg hjk]
                  by_cases hl : j < k
                  · rw [if_pos (by omega), if_pos hl]
                  · rw [if_neg (by omega), if_neg hl]
            case measure => simp [intOf]; omega
          · have hkn : k = n := by omega
            subst hkn
            rw [tab_ext (G := fun j => (p.getD j 0).tdiv u) (fun j hj => if_pos hj)] at hrow
            have Hrow := Lib.hid hrow
            clear hrow hbw
            go_wp2
            refine bodyPost_ret (v := .tuple #[.int .i64 u, .slice (some ⟨w.heap.size, 0, none⟩) k k]) (by simp [results, Tryz.results54, go_sem]) rfl ⟨rfl, Hrow.out, Hbw.out⟩
end Go.Proofs.YtdihefmjfnlpcaaGreat

/- The walks of cylinderref17.Small, power and Mobius. -/
namespace Go.Proofs.YtdihefmjfnlpcaaGreat
open Go.RowKit

/-- the denominator that Small makes -/
def smd (d : Int) : Int := if (d.tmod 6).natAbs = 0 then 1 else ((d.tmod 6).natAbs : Int)
theorem smd_bd (d : Int) : 1 ≤ smd d ∧ smd d ≤ 5 := by
  unfold smd
  have h : (d.tmod 6).natAbs < 6 := by rw [Int.natAbs_tmod]; exact Nat.mod_lt _ (by decide)
  split <;> omega
theorem smn_bd (p : Int) : (p.tmod 10).natAbs ≤ 9 := by
  have : (p.tmod 10).natAbs < 10 := by rw [Int.natAbs_tmod]; exact Nat.mod_lt _ (by decide)
  omega

theorem wrap8 (n : Int) (h : -128 ≤ n) (h1 : n ≤ 127) : IntKind.i8.wrap n = n := by
  have e : IntKind.i8.wrap n = (n + 128) % 256 - 128 := by
    simp [IntKind.wrap, IntKind.bits, IntKind.signed]
    split <;> omega
  rw [e]; omega

set_option maxRecDepth 100000 in
set_option maxHeartbeats 1000000 in
theorem small17_any (p d : Int) (w : World) :
    Calls Tryz.prog 19 #[.agg #[.int .i8 p, .int .i8 d]] w fun e w' => e = .returned (.agg #[.int .i8 (p.tmod 10), .int .i8 (smd d)]) ∧ Below w.heap.size w w' := by
  have hx6 : (d.tmod 6).natAbs < 6 := by rw [Int.natAbs_tmod]; exact Nat.mod_lt _ (by decide)
  have hs : smd d = if (d.tmod 6).natAbs = 0 then 1 else ((d.tmod 6).natAbs : Int) := rfl
  have hn := smn_bd p
  obtain ⟨n, hn2⟩ : ∃ n, n = p.tmod 10 := ⟨_, rfl⟩
  obtain ⟨x, hx⟩ : ∃ x, x = d.tmod 6 := ⟨_, rfl⟩
  obtain ⟨s, hs2⟩ : ∃ s, s = smd d := ⟨_, rfl⟩
  rw [← hx] at hs hx6
  rw [← hs2] at hs ⊢
  rw [← hn2] at hn ⊢
  have d1 : Int.tmod p 10 = n := hn2.symm
  have d2 : Int.tmod d 6 = x := hx.symm
  have d3 : IntKind.i8.wrap n = n := wrap8 _ (by omega) (by omega)
  have d4 : IntKind.i8.wrap x = x := wrap8 _ (by omega) (by omega)
  have d5 : IntKind.i8.wrap (-x) = -x := wrap8 _ (by omega) (by omega)
  clear hn2 hx hs2 hn
  rcases (show x < 0 ∨ x = 0 ∨ 0 < x by omega) with h0 | h0 | h0
  · have e1 : -x = s := by rw [hs]; split <;> omega
    have d6 : IntKind.i8.wrap s = s := wrap8 _ (by omega) (by omega)
    have b1 : (s == 0) = false := by rw [beq_eq_false_iff_ne]; omega
    clear hs hx6
    go_enter Tryz.func19, Tryz.ntmps19
    go_wp2
    refine bodyPost_ret (v := .agg #[.int .i8 n, .int .i8 s]) (by simp [results, Tryz.results19, go_sem]) rfl ⟨rfl, (by (repeat (first | exact Below.refl _ _ | refine Below.drew ?_ | refine Below.alloc ?_ (by first | (simp; done) | (simp; omega) | omega) _ | refine Below.setCell ?_ (by first | (simp; done) | (simp; omega) | omega) _)))⟩
  · subst h0
    have e1 : s = 1 := by rw [hs]; rfl
    subst e1
    clear hs hx6
    go_enter Tryz.func19, Tryz.ntmps19
    go_wp2
    refine bodyPost_ret (v := .agg #[.int .i8 n, .int .i8 1]) (by simp [results, Tryz.results19, go_sem]) rfl ⟨rfl, (by (repeat (first | exact Below.refl _ _ | refine Below.drew ?_ | refine Below.alloc ?_ (by first | (simp; done) | (simp; omega) | omega) _ | refine Below.setCell ?_ (by first | (simp; done) | (simp; omega) | omega) _)))⟩
  · have e1 : x = s := by rw [hs]; split <;> omega
    subst e1
    have b1 : (x == 0) = false := by rw [beq_eq_false_iff_ne]; omega
    have b2 : ¬ x < 0 := by omega
    clear hs hx6
    go_enter Tryz.func19, Tryz.ntmps19
    go_wp2
    refine bodyPost_ret (v := .agg #[.int .i8 n, .int .i8 x]) (by simp [results, Tryz.results19, go_sem]) rfl ⟨rfl, (by (repeat (first | exact Below.refl _ _ | refine Below.drew ?_ | refine Below.alloc ?_ (by first | (simp; done) | (simp; omega) | omega) _ | refine Below.setCell ?_ (by first | (simp; done) | (simp; omega) | omega) _)))⟩

/-- a new row that a literal makes -/
theorem I64At.one (w : World) (a : Int) : I64At (w.alloc (.cells #[.int .i64 a] 3)) (some ⟨w.heap.size, 0, none⟩) 1 1 [a] := by
  have h : IRow (w.alloc (.cells #[.int .i64 a] 3)) w.heap.size [a] := Blk.new w _ _
  exact h.at_ (cap := 1) (by simp)
theorem I64At.two (w : World) (a b : Int) : I64At (w.alloc (.cells #[.int .i64 a, .int .i64 b] 3)) (some ⟨w.heap.size, 0, none⟩) 2 2 [a, b] := by
  have h : IRow (w.alloc (.cells #[.int .i64 a, .int .i64 b] 3)) w.heap.size [a, b] := Blk.new w _ _
  exact h.at_ (cap := 2) (by simp)

theorem two_small {g : List Int} (hg : plen g ≤ 2) {B : Nat} (hB : (g.getD 0 0).natAbs + (g.getD 1 0).natAbs ≤ B) (j : Nat) : (g.getD j 0).natAbs ≤ B := by
  match j with
  | 0 => omega
  | 1 => omega
  | j + 2 => rw [getD_ge_plen g (j + 2) (by omega)]; simp

set_option maxRecDepth 100000 in
set_option maxHeartbeats 1000000 in
theorem rpow_any (A : Option Addr) (la ca : Nat) (f : List Int) (n B : Nat) (w : World) (hf : I64At w A la ca f) (hl : la ≤ 2) (hB : (f.getD 0 0).natAbs + (f.getD 1 0).natAbs ≤ B) (h1 : 1 ≤ B) (hn : n ≤ 900) (hBn : B ^ n ≤ 1125899906842624) :
    Calls Tryz.prog 53 #[.slice A la ca, .int .i64 (n : Int)] w fun e w' => ∃ A' l' c', e = .returned (.slice A' l' c') ∧ I64At w' A' l' c' (rpow f n) ∧ Below w.heap.size w w' := by
  have hp2 : plen f ≤ 2 := by have := plen_le f; have := hf.length; omega
  have hX := rpow_bd hp2 hB
  have hY := two_small hp2 hB
  have hL := rpow_len hp2
  have o1 := below_new w (.cells #[.int .i64 1] 3)
  have Hat := Lib.hid (I64At.one w 1)
  have Hb := Lib.hid o1
  clear o1 hp2 hB
  go_enter Tryz.func53, Tryz.ntmps53
  go_wp2
  go_loopw [5, 6] (fun s5 s6 wr => ∃ (i : Nat) (A1 : Option Addr) (l1 c1 : Nat), i ≤ n ∧ s5 = .slice A1 l1 c1 ∧ s6 = .int .i64 (i : Int) ∧ I64At wr A1 l1 c1 (rpow f i) ∧ Below w.heap.size w wr) (fun _ s6 _ => n - (intOf s6).toNat)
  case atStart => exact ⟨0, _, _, _, Nat.zero_le _, rfl, rfl, Hat.out, Hb.out⟩
  case round =>
    clear Hat Hb
    obtain ⟨i, A1, l1, c1, hi, rfl, rfl, hat, hbw⟩ := hrel
    have Hbw := Lib.hid hbw
    have Hat := Lib.hid hat
    clear hbw hat
    by_cases hlt : i < n
    · have hlen := Hat.out.length
      have hl1 := hL i
      have hxy : B ^ i * B ≤ 1125899906842624 := by
        refine Nat.le_trans ?_ hBn
        rw [← Nat.pow_succ]
        exact Nat.pow_le_pow_right h1 hlt
      have hXi := hX i
      go_wp2_with fail
      refine (rmul_any _ _ _ (rpow f i) _ _ _ f _ Hat.out (hf.below Hbw.out) (by omega) (by omega) hXi hY hxy).mono ?_
      rintro e w2 ⟨A2, l2, c2, rfl, h2, _, hb2⟩
      have H2 := Lib.hid h2
      have Hb2 := Lib.hid (Hbw.out.trans (hb2.mono Hbw.out.size))
      clear h2 hb2 hXi hxy
      go_wp2
      go_roundw
      case rel => exact ⟨i + 1, _, _, _, by omega, rfl, by go_num, H2.out, Hb2.out⟩
      case measure => simp [intOf]; omega
    · have hin : i = n := by omega
      subst hin
      clear hX hY hL
      go_wp2
      go_ret
      exact ⟨_, _, _, rfl, Hat.out, Hbw.out⟩

theorem rnu_list (S : List Int) : tab (plen S) (fun j => (S.getD j 0).tdiv (pcont S : Int)) = pctd (ptrim S) := by
  refine List.ext_getElem? fun j => ?_
  unfold pctd
  rw [pcont_trim, List.getElem?_map]
  by_cases h : j < plen S
  · have hl : j < (ptrim S).length := by rw [ptrim_length]; exact h
    have e : (ptrim S)[j]? = some (S.getD j 0) := by
      rw [List.getElem?_eq_getElem hl, ← ptrim_getD S j, List.getD_eq_getElem?_getD, List.getElem?_eq_getElem hl]; rfl
    rw [e]
    simp [tab, h]
  · rw [List.getElem?_eq_none (by rw [tab_length]; omega), List.getElem?_eq_none (by rw [ptrim_length]; omega)]; rfl
theorem rnu_pos {S : List Int} (h : ¬ rnu S < 0) : tab (plen S) (fun j => (S.getD j 0).tdiv (rnu S)) = pctd (ptrim S) := by
  rw [← rnu_list]
  refine tab_ext fun j _ => ?_
  have : rnu S = (pcont S : Int) := by
    unfold rnu at h ⊢
    split
    · rename_i h1; rw [if_pos h1] at h; omega
    · rfl
  rw [this]
theorem rnu_neg {S : List Int} (h : rnu S < 0) : tab (plen S) (fun j => -((S.getD j 0).tdiv (rnu S))) = pctd (ptrim S) := by
  rw [← rnu_list]
  refine tab_ext fun j _ => ?_
  have : rnu S = -(pcont S : Int) := by
    unfold rnu at h ⊢
    split
    · rfl
    · rename_i h1; rw [if_neg h1] at h; omega
  rw [this, Int.tdiv_neg, Int.neg_neg]
end Go.Proofs.YtdihefmjfnlpcaaGreat

/- The walk of cylinderref17.Mobius. -/
namespace Go.Proofs.YtdihefmjfnlpcaaGreat
open Go.RowKit

/-- A box of a pair of int8s. -/
structure Pai (W : World) (g : Nat) (x0 x1 : Int) : Prop where
  c0 : W.cell? ⟨g, 0, none⟩ = some (.int .i8 x0)
  c1 : W.cell? ⟨g, 1, none⟩ = some (.int .i8 x1)
theorem Pai.move {W W' : World} {g : Nat} {x0 x1 : Int} (h : Pai W g x0 x1) (hb : Below W.heap.size W W') : Pai W' g x0 x1 := by
  obtain ⟨hc, _⟩ := bcellS hb
  exact ⟨(hc _ (by rw [h.c0]; rfl)).trans h.c0, (hc _ (by rw [h.c1]; rfl)).trans h.c1⟩
theorem Pai.make (W : World) (x0 x1 : Int) (t : TypeId) : Pai (W.alloc (.cells #[.int .i8 x0, .int .i8 x1] t)) W.heap.size x0 x1 := ⟨by go_simp, by go_simp⟩

theorem I64At.set_ {w : World} {A : Option Addr} {len cap : Nat} {p : List Int} (h : I64At w A len cap p) {g k : Nat} (v : Value) (hne : ∀ q, A = some q → g < q.block) : I64At (w.setCell ⟨g, k, none⟩ v) A len cap p := by
  refine ⟨h.length, h.cap, ?_⟩
  rcases h.cells with h0 | ⟨b, off, hA, hlt, hc⟩
  · exact .inl h0
  · refine .inr ⟨b, off, hA, by simpa using hlt, fun j hj => ?_⟩
    have h1 := hne _ hA
    have h1' : g < b := h1
    have hb : g ≠ b := by omega
    have e := hc j hj
    go_simp
theorem I64At.drew {w : World} {A : Option Addr} {len cap : Nat} {p : List Int} (h : I64At w A len cap p) : I64At w.drew A len cap p := ⟨h.length, h.cap, h.cells⟩

theorem rmob_nil {f : List Int} {a d b e : Int} (h : plen f = 0 ∨ ¬ (a * e < b * d)) : rmob f a d b e = [] := by unfold rmob; rw [if_pos h]

set_option maxRecDepth 100000 in
set_option maxHeartbeats 4000000 in
theorem rmobius_any (A : Option Addr) (la ca : Nat) (f : List Int) (p d p' d' : Int) (w : World) (hf : I64At w A la ca f) (hl : la ≤ 7) (hF : ∀ j, (f.getD j 0).natAbs ≤ 128) (hp : I8 p) (hd : I8 d) (hp' : I8 p') (hd' : I8 d')
    (ha9 : (frn p d).natAbs ≤ 9) (hb9 : (frn p' d').natAbs ≤ 9) (hd5 : 1 ≤ frd d ∧ frd d ≤ 5) (he5 : 1 ≤ frd d' ∧ frd d' ≤ 5) :
    Calls Tryz.prog 18 #[.slice A la ca, .agg #[.int .i8 p, .int .i8 d], .agg #[.int .i8 p', .int .i8 d']] w fun e w' => ∃ A' l' c', e = .returned (.slice A' l' c') ∧ I64At w' A' l' c' (rmob f (frn p d) (frd d) (frn p' d') (frd d')) ∧ Below w.heap.size w w' := by
  have o1 := below_new w (.cells #[.int .i8 p, .int .i8 d] 41)
  have o2 := below_new (w.alloc (.cells #[.int .i8 p, .int .i8 d] 41)) (.cells #[.int .i8 p', .int .i8 d'] 41)
  have Hb := Lib.hid (o1.trans (o2.mono o1.size))
  have hfl := hf.length
  have hpl := plen_le f
  have r0 := (Pai.make w p d 41).move o2
  have r1 := Pai.make (w.alloc (.cells #[.int .i8 p, .int .i8 d] 41)) p' d' 41
  have R0 := Lib.hid r0
  have R1 := Lib.hid (show Pai ((w.alloc (.cells #[.int .i8 p, .int .i8 d] 41)).alloc (.cells #[.int .i8 p', .int .i8 d'] 41)) (w.heap.size + 1) p' d' by simpa using r1)
  have hf2 := (hf.below o1).below o2
  have Hf := Lib.hid hf2
  clear o1 o2 r0 r1
  obtain ⟨a, hae⟩ : ∃ a, a = frn p d := ⟨_, rfl⟩
  obtain ⟨y, hye⟩ : ∃ y, y = frd d := ⟨_, rfl⟩
  obtain ⟨b, hbe⟩ : ∃ b, b = frn p' d' := ⟨_, rfl⟩
  obtain ⟨z, hze⟩ : ∃ z, z = frd d' := ⟨_, rfl⟩
  rw [← hae, ← hye, ← hbe, ← hze]
  rw [← hae] at ha9
  rw [← hye] at hd5
  rw [← hbe] at hb9
  rw [← hze] at he5
  obtain ⟨y1, y2⟩ := hd5
  obtain ⟨z1, z2⟩ := he5
  have Ea := Lib.hid hae
  have Ey := Lib.hid hye
  have Eb := Lib.hid hbe
  have Ez := Lib.hid hze
  clear hae hye hbe hze
  have m1 : (a * z).natAbs ≤ 9 * 5 := by rw [Int.natAbs_mul]; exact Nat.mul_le_mul ha9 (by omega)
  have m2 : (b * y).natAbs ≤ 9 * 5 := by rw [Int.natAbs_mul]; exact Nat.mul_le_mul hb9 (by omega)
  have m3 : (y * z).natAbs ≤ 5 * 5 := by rw [Int.natAbs_mul]; exact Nat.mul_le_mul (by omega) (by omega)
  obtain ⟨P, hP⟩ : ∃ P, P = a * z := ⟨_, rfl⟩
  obtain ⟨Q, hQ⟩ : ∃ Q, Q = b * y := ⟨_, rfl⟩
  obtain ⟨R, hR⟩ : ∃ R, R = y * z := ⟨_, rfl⟩
  rw [← hP] at m1
  rw [← hQ] at m2
  rw [← hR] at m3
  have w1 : IntKind.i64.wrap P = P := IntWalk.i64_in _ (by omega)
  have w2 : IntKind.i64.wrap Q = Q := IntWalk.i64_in _ (by omega)
  have w3 : IntKind.i64.wrap R = R := IntWalk.i64_in _ (by omega)
  go_enter Tryz.func18, Tryz.ntmps18
  go_wp2_with fail
  refine (rtrim_any _ _ _ _ _ hf2 (by omega)).mono ?_
  rintro e wx ⟨rfl, rfl⟩
  obtain ⟨wB, hwB⟩ : ∃ wB, wB = ((w.alloc (.cells #[.int .i8 p, .int .i8 d] 41)).alloc (.cells #[.int .i8 p', .int .i8 d'] 41)) := ⟨_, rfl⟩
  rw [← hwB] at Hb R0 R1 Hf hf2 ⊢
  clear hwB
  by_cases hf0 : plen f = 0
  · have Hnil := Lib.hid (rmob_nil (f := f) (a := a) (d := y) (b := b) (e := z) (.inl hf0))
    rw [hf0]
    clear hf0 hF hf hf2 hpl hfl
    go_wp2
    go_ret
    exact ⟨_, _, _, rfl, by rw [Hnil.out]; exact I64At.nil _ _, Hb.out⟩
  have b1 : ((plen f : Int) == 0) = false := by rw [beq_eq_false_iff_ne]; omega
  have c0 := R0.out.c0
  have c1 := R0.out.c1
  have c2 := R1.out.c0
  have c3 := R1.out.c1
  go_wp2_with fail
  refine (less15_any _ _ _ _ _ hp hd hp' hd').mono ?_
  rintro e wC ⟨rfl, hbC⟩
  rw [← Ea.out, ← Ey.out, ← Eb.out, ← Ez.out, ← hP, ← hQ]
  replace R0 := Lib.hid (R0.out.move hbC)
  replace R1 := Lib.hid (R1.out.move hbC)
  replace Hf := Lib.hid (Hf.out.below hbC)
  replace Hb := Lib.hid (Hb.out.trans (hbC.mono Hb.out.size))
  clear hbC c0 c1 c2 c3 hf2
  by_cases hlt : P < Q
  · have hdt : decide (P < Q) = true := decide_eq_true hlt
    rw [hdt]
    have c0 := R0.out.c0
    have c1 := R0.out.c1
    clear hdt
    go_wp2_with fail
    refine (frac_any _ _ _ hp hd).mono ?_
    rintro e wD ⟨rfl, hbD⟩
    rw [← Ea.out, ← Ey.out]
    replace R1 := Lib.hid (R1.out.move hbD)
    replace Hf := Lib.hid (Hf.out.below hbD)
    replace Hb := Lib.hid (Hb.out.trans (hbD.mono Hb.out.size))
    clear hbD c0 c1 R0
    have c2 := R1.out.c0
    have c3 := R1.out.c1
    go_wp2_with fail
    refine (frac_any _ _ _ hp' hd').mono ?_
    rintro e wE ⟨rfl, hbE⟩
    rw [← Eb.out, ← Ez.out]
    replace Hf := Lib.hid (Hf.out.below hbE)
    replace Hb := Lib.hid (Hb.out.trans (hbE.mono Hb.out.size))
    clear hbE c2 c3 R1
    obtain ⟨n, hn⟩ : ∃ n, plen f = n + 1 := ⟨plen f - 1, by omega⟩
    have i1 : IntKind.i64.wrap ((plen f : Int) - 1) = (n : Int) := by rw [IntWalk.i64_in _ (by omega)]; omega
    have i2 : (plen f : Int) - 1 = (n : Int) := by omega
    have hn6 : n ≤ 6 := by omega
    have p1 : a * z = P := hP.symm
    have p2 : b * y = Q := hQ.symm
    have p3 : y * z = R := hR.symm
    have Hmob := Lib.hid (show rmob f a y b z = pctd (ptrim (rsl (ptrim f) [P, Q] [R, R] n)) by
      unfold rmob
      rw [p1, p2, p3, if_neg (fun h => h.elim hf0 (fun h => h hlt)), hn, Nat.add_sub_cancel])
    have hu2 : plen [P, Q] ≤ 2 := two_plen P Q
    have hv2 : plen [R, R] ≤ 2 := two_plen R R
    have hB1 : (([P, Q] : List Int).getD 0 0).natAbs + (([P, Q] : List Int).getD 1 0).natAbs ≤ 90 := by show P.natAbs + Q.natAbs ≤ 90; omega
    have hB2 : (([R, R] : List Int).getD 0 0).natAbs + (([R, R] : List Int).getD 1 0).natAbs ≤ 90 := by show R.natAbs + R.natAbs ≤ 90; omega
    have hFt : ∀ j, ((ptrim f).getD j 0).natAbs ≤ 128 := fun j => by rw [ptrim_getD]; exact hF j
    have h90 : 90 ^ n ≤ 531441000000 := Nat.le_trans (Nat.pow_le_pow_right (by decide) hn6) (by decide)
    have HT := Lib.hid (fun i j (hi : i ≤ n) => rterm_bd (n := n) hu2 hv2 (B := 90) hB1 hB2 hi j)
    have HTl := Lib.hid (fun i (hi : i ≤ n) => rterm_len (u := [P, Q]) (v := [R, R]) (n := n) hu2 hv2 hi)
    have HS := Lib.hid (fun i j (hi : i ≤ n + 1) => rsum_bd (f := ptrim f) (n := n) hu2 hv2 (B := 90) hB1 hB2 hFt j i hi)
    have hUt : plen (ptrim [P, Q]) ≤ 2 := by rw [plen_ptrim]; exact hu2
    have HB1 := Lib.hid (show ((ptrim [P, Q]).getD 0 0).natAbs + ((ptrim [P, Q]).getD 1 0).natAbs ≤ 90 by rw [ptrim_getD, ptrim_getD]; exact hB1)
    have HB2 := Lib.hid hB2
    have HFt := Lib.hid hFt
    have hu2l : plen [P, Q] ≤ 2 := hu2
    have hft : I64At wE A (plen f) ca (ptrim f) := Hf.out.take (by omega)
    have o3 := below_new wE (.cells #[.int .i64 P, .int .i64 Q] 3)
    have o4 := below_new (wE.alloc (.cells #[.int .i64 P, .int .i64 Q] 3)) (.cells #[.int .i64 R, .int .i64 R] 3)
    have U0 := (I64At.two wE P Q).below o4
    have V0 := I64At.two (wE.alloc (.cells #[.int .i64 P, .int .i64 Q] 3)) R R
    have F0 := (hft.below o3).below o4
    have HU0 := Lib.hid U0
    have HV0 := Lib.hid V0
    have HF0 := Lib.hid F0
    have Hb4 := Lib.hid (Hb.out.trans ((o3.trans (o4.mono o3.size)).mono Hb.out.size))
    generalize plen f = N at *
    clear U0 V0 F0 hft o3 o4 Hb Hf hF hf hP hQ hR b1 hf0 hpl hfl hu2 hv2 hB1 hB2 hFt m1 m2 m3 ha9 hb9 hUt hn
    go_wp2_with (at_make; refine wpList_make_int _ rfl (.tmp 60) (.tmp 60) rfl (n + 1) rfl rfl (by omega) ?_)
    intro w5 hz hb5 hsz
    have HV1 : Hid (I64At ((wE.alloc (.cells #[.int .i64 P, .int .i64 Q] 3)).alloc (.cells #[.int .i64 R, .int .i64 R] 3)) (some ⟨wE.heap.size + 1, 0, none⟩) 2 2 [R, R]) := Lib.hid (by have := HV0.out; simpa using this)
    obtain ⟨wc, hwc⟩ : ∃ wc, wc = (wE.alloc (.cells #[.int .i64 P, .int .i64 Q] 3)).alloc (.cells #[.int .i64 R, .int .i64 R] 3) := ⟨_, rfl⟩
    have hgs : wE.heap.size + 1 + 1 = wc.heap.size := by rw [hwc]; simp
    rw [← hwc] at hb5 HU0 HV1 HF0 Hb4
    rw [hgs] at hz hb5 hsz ⊢
    rw [tab_zero] at hz
    have Hz := Lib.hid hz
    have Hb5 := Lib.hid hb5
    have Nn := Lib.hid (show N = n + 1 by omega)
    clear hz hb5 hsz HV0 hwc hgs i1 i2 w1 w2 w3 p1 p2 p3 hlt y1 y2 z1 z2 hp hd hp' hd'
    go_wp2
    go_loopw [15] (fun s15 wr => ∃ (i : Nat) (F : Nat → Int), i ≤ n + 1 ∧ s15 = .int .i64 (i : Int) ∧ IRow wr wc.heap.size (tab (n + 1) F) ∧ (∀ j, j < n + 1 → F j = rsum (ptrim f) [P, Q] [R, R] n i j) ∧ Below wc.heap.size wc wr) (fun s15 _ => n + 1 - (intOf s15).toNat)
    case atStart => exact ⟨0, _, Nat.zero_le _, rfl, Hz.out, fun j _ => rfl, Hb5.out⟩
    case round =>
      clear Hz Hb5
      obtain ⟨i, F, hi, rfl, hrow, hFv, hbw⟩ := hrel
      obtain ⟨wo, rfl⟩ : ∃ wo : World, wo = wr := ⟨_, rfl⟩
      have Hrow := Lib.hid hrow
      have HFv := Lib.hid hFv
      have Hbw := Lib.hid hbw
      clear hrow hFv hbw
      by_cases hlt : i ≤ n
      · have HU := Lib.hid (HU0.out.below Hbw.out)
        have HV := Lib.hid (HV1.out.below Hbw.out)
        obtain ⟨m, hm⟩ : ∃ m, n = i + m := ⟨n - i, by omega⟩
        have hin : (i : Int) ≤ (n : Int) := by omega
        have s1 : IntKind.i64.wrap ((n : Int) - (i : Int)) = (m : Int) := by rw [IntWalk.i64_in _ (by omega)]; omega
        have s2 : (n : Int) - (i : Int) = (m : Int) := by omega
        have s3 : IntKind.i64.wrap (m : Int) = (m : Int) := IntWalk.i64_in _ (by omega)
        have hnm : n - i = m := by omega
        have q1 : 90 ^ i ≤ 1125899906842624 := Nat.le_trans (Nat.pow_le_pow_right (by decide) hlt) (by omega)
        have q2 : 90 ^ m ≤ 1125899906842624 := Nat.le_trans (Nat.pow_le_pow_right (by decide) (show m ≤ n by omega)) (by omega)
        have q3 : 90 ^ i * 90 ^ m ≤ 1125899906842624 := by rw [← Nat.pow_add, ← hm]; omega
        have HTi := Lib.hid (fun j => HT.out i j hlt)
        have HTj := Lib.hid (HTl.out i hlt)
        have HSi := Lib.hid (fun j => HS.out i j (by omega))
        have hm6 : m ≤ 6 := by omega
        have hi6 : i ≤ 6 := by omega
        have Hnm := Lib.hid hnm
        clear hm hnm
        go_wp2_with fail
        refine (rtrim_any _ _ _ _ _ HU.out (by omega)).mono ?_
        rintro e wx ⟨rfl, rfl⟩
        go_wp2_with fail
        refine (rpow_any _ _ _ (ptrim [P, Q]) i 90 _ (HU.out.take hu2l) hu2l HB1.out (by omega) (by omega) q1).mono ?_
        rintro e w6 ⟨A6, l6, c6, rfl, h6, hb6⟩
        have H6 := Lib.hid h6
        have L6 : l6 ≤ i + 1 := by have h1 := h6.length; have h2 := rpow_len (g := ptrim [P, Q]) (by rw [plen_ptrim]; exact hu2l) i; omega
        replace HV := Lib.hid (HV.out.below hb6)
        have HBo := Lib.hid hb6
        clear h6 hb6 HU
        go_wp2_with fail
        refine (rpow_any _ _ _ [R, R] m 90 _ HV.out (by omega) HB2.out (by omega) (by omega) q2).mono ?_
        rintro e w7 ⟨A7, l7, c7, rfl, h7, hb7⟩
        have H7 := Lib.hid h7
        have L7 : l7 ≤ m + 1 := by have h1 := h7.length; have h2 := rpow_len (g := [R, R]) (two_plen R R) m; omega
        replace H6 := Lib.hid (H6.out.below hb7)
        replace HBo := Lib.hid (HBo.out.trans (hb7.mono HBo.out.size))
        have hs7 := HBo.out.size
        clear h7 hb7 HV
        go_wp2_with fail
        refine (rmul_any _ _ _ (rpow (ptrim [P, Q]) i) _ _ _ (rpow [R, R] m) _ H6.out H7.out (by omega) (by omega) (X := 90 ^ i) (Y := 90 ^ m) (rpow_bd (by rw [plen_ptrim]; exact hu2l) HB1.out i) (rpow_bd (two_plen R R) HB2.out m) q3).mono ?_
        rintro e w8 ⟨A8, l8, c8, rfl, h8, hfr8, hb8⟩
        replace HBo := Lib.hid (HBo.out.trans (hb8.mono HBo.out.size))
        have hro := Hrow.out.lt
        have Hrow8 := Lib.hid (Hrow.out.below HBo.out hro)
        have Hbw8 := Lib.hid (Hbw.out.trans (HBo.out.mono Hbw.out.size))
        have hfr : ∀ q, A8 = some q → wc.heap.size < q.block := fun q hq => by
          have h1 := hfr8 q hq
          omega
        obtain ⟨t, htt⟩ : ∃ t, t = rmul (rpow (ptrim [P, Q]) i) (rpow [R, R] m) := ⟨_, rfl⟩
        rw [← htt] at h8
        have htr : t = rterm [P, Q] [R, R] n i := by unfold rterm; rw [Hnm.out]; exact htt
        have Htr := Lib.hid htr
        have H8 := Lib.hid h8
        have L8 : l8 ≤ n + 1 := by have h1 := h8.length; have h2 := HTj.out; rw [← htr] at h2; omega
        have Hl8 := Lib.hid h8.length
        have Hfr := Lib.hid hfr
        clear hfr8 hb8 hfr htt htr h8 H6 H7 L6 L7 Hrow Hbw HBo s1 s2 s3 q1 q2 q3
        go_wp2
        go_loopw [17] (fun s17 wx => ∃ (k : Nat) (G : Nat → Int), k ≤ l8 ∧ s17 = .int .i64 (k : Int) ∧ IRow wx wc.heap.size (tab (n + 1) G) ∧ (∀ j, j < n + 1 → G j = rsum (ptrim f) [P, Q] [R, R] n i j + (if j < k then (ptrim f).getD i 0 * t.getD j 0 else 0)) ∧ Below wc.heap.size wc wx ∧ I64At wx A8 l8 c8 t) (fun s17 _ => l8 - (intOf s17).toNat)
        case atStart => exact ⟨0, F, Nat.zero_le _, rfl, Hrow8.out, fun j hj => by rw [HFv.out j hj, if_neg (by omega), Int.add_zero], Hbw8.out, H8.out⟩
        case round =>
          clear Hrow8 HFv Hbw8 H8
          obtain ⟨k, G, hk, rfl, hrow, hG, hbx, hat⟩ := hrel
          have Hrow := Lib.hid hrow
          have HG := Lib.hid hG
          have Hbx := Lib.hid hbx
          have Hat := Lib.hid hat
          by_cases hkg : k < l8
          · have nn1 := Nn.out
            obtain ⟨c1, o1, rfl, hb1, hc1⟩ := HF0.out.at_ (by omega)
            obtain ⟨c2, o2, rfl, hb2, hc2⟩ := hat.at_ (by omega)
            have e1 := (hbx.cell (p := ⟨c1, o1 + i, none⟩) hb1).trans (hc1 i (by omega))
            have e2 := hc2 k (by omega)
            have hik : k < n + 1 := by omega
            have e3 := hrow.cell (i := k) (by rw [tab_length]; exact hik)
            rw [tab_get _ hik] at e3
            have f3 := hrow.frozen k
            have hGv := hG k hik
            rw [if_neg (by omega), Int.add_zero] at hGv
            have hB := HSi.out k
            rw [← hGv] at hB
            have hT := HTi.out k
            rw [← Htr.out] at hT
            have m9 : (n + 1) * 90 ^ n ≤ 7 * 531441000000 := Nat.mul_le_mul (by omega) h90
            have m8 : i * (128 * ((n + 1) * 90 ^ n)) ≤ 7 * (128 * (7 * 531441000000)) := Nat.mul_le_mul (by omega) (Nat.mul_le_mul_left _ m9)
            have hfb := HFt.out i
            have hp : ((ptrim f).getD i 0 * t.getD k 0).natAbs ≤ 128 * (7 * 531441000000) := by rw [Int.natAbs_mul]; exact Nat.mul_le_mul hfb (Nat.le_trans hT m9)
            have HGv := Lib.hid hGv
            have nb3 : wc.heap.size < c2 := Hfr.out _ rfl
            obtain ⟨v, hv⟩ : ∃ v, v = G k := ⟨_, rfl⟩
            obtain ⟨x, hx⟩ : ∃ x, x = (ptrim f).getD i 0 := ⟨_, rfl⟩
            obtain ⟨y', hy⟩ : ∃ y', y' = t.getD k 0 := ⟨_, rfl⟩
            rw [← hv] at e3 hB
            rw [← hx] at e1 hp
            rw [← hy] at e2 hp
            have Hv := Lib.hid hv
            have Hx := Lib.hid hx
            have Hy := Lib.hid hy
            have nb1 : wc.heap.size ≠ c1 := by omega
            have nb2 : wc.heap.size ≠ c2 := by omega
            have i5 : (k : Int) < (n : Int) + 1 := by omega
            have i6 : (i : Int) < (N : Int) := by omega
            have i7 : (k : Int) < (l8 : Int) := by omega
            have i8 : i < N := by omega
            have i9 : IntKind.i64.wrap (x * y') = x * y' := IntWalk.i64_in _ (by omega)
            have i10 : IntKind.i64.wrap (v + x * y') = v + x * y' := IntWalk.i64_in _ (by omega)
            clear hrow hG hbx hc1 hc2 hb1 hb2 hGv hv hx hy hB hp hat hT m8 m9 hfb nb3 nn1
            go_wp2_with fail
            refine wp_region_last (S := fun w' => w'.cell? ⟨c1, o1 + i, none⟩ = some (.int .i64 x) ∧ w'.cell? ⟨c2, o2 + k, none⟩ = some (.int .i64 y') ∧ w'.cell? ⟨wc.heap.size, k, none⟩ = some (.int .i64 v)) (by kernel_rfl) (by kernel_rfl) (by (try dsimp only); refine ⟨?_, ?_, ?_⟩ <;> go_simp) (fun hHeld => ?_)
            simp only [List.pop_toArray, List.dropLast]
            (refine take_at (i := 0) (oi := _) (v := ?_) rfl rfl (by kernel_rfl) (by kernel_rfl) (by kernel_rfl) (fun _ _ _ h => h) (Or.inl ⟨by rfl, ?_⟩) (by assumption) ?_; rotate_left; (focus (intro w hSw; (try dsimp only at hSw); go_simp; (try with_reducible rfl))); (simp only [put_lit, List.set]))
            (refine take_at (i := 1) (oi := _) (v := ?_) rfl rfl (by kernel_rfl) (by kernel_rfl) (by kernel_rfl) (fun _ _ _ h => h) (Or.inl ⟨by rfl, ?_⟩) (by assumption) ?_; rotate_left; (focus (intro w hSw; (try dsimp only at hSw); go_simp; (try with_reducible rfl))); (simp only [put_lit, List.set]))
            (refine take_at (i := 2) (oi := _) (v := ?_) rfl rfl (by kernel_rfl) (by kernel_rfl) (by kernel_rfl) (fun _ _ _ h => h) (Or.inl ⟨by rfl, ?_⟩) (by assumption) ?_; rotate_left; (focus (intro w hSw; (try dsimp only at hSw); go_simp; (try with_reducible rfl))); (simp only [put_lit, List.set]))
            (refine take_at (i := 3) (oi := _) (v := ?_) rfl rfl (by kernel_rfl) (by kernel_rfl) (by kernel_rfl) (fun _ _ _ h => h) (Or.inl ⟨by rfl, ?_⟩) (by assumption) ?_; rotate_left; (focus (intro w hSw; (try dsimp only at hSw); go_simp; (try with_reducible rfl))); (simp only [put_lit, List.set]))
            (refine take_at (i := 4) (oi := _) (v := ?_) rfl rfl (by kernel_rfl) (by kernel_rfl) (by kernel_rfl) (fun _ _ _ h => h) (Or.inl ⟨by rfl, ?_⟩) (by assumption) ?_; rotate_left; (focus (intro w hSw; (try dsimp only at hSw); go_simp; (try with_reducible rfl))); (simp only [put_lit, List.set]))
            (refine take_at (i := 5) (oi := _) (v := ?_) rfl rfl (by kernel_rfl) (by kernel_rfl) (by kernel_rfl) (fun _ _ _ h => h) (Or.inl ⟨by rfl, ?_⟩) (by assumption) ?_; rotate_left; (focus (intro w hSw; (try dsimp only at hSw); go_simp; (try with_reducible rfl))); (simp only [put_lit, List.set]))
            (refine take_at (i := 6) (oi := _) (v := ?_) rfl rfl (by kernel_rfl) (by kernel_rfl) (by kernel_rfl) (fun _ _ _ h => h) (Or.inl ⟨by rfl, ?_⟩) (by assumption) ?_; rotate_left; (focus (intro w hSw; (try dsimp only at hSw); go_simp; (try with_reducible rfl))); (simp only [put_lit, List.set]))
            (refine take_at (i := 7) (oi := _) (v := ?_) rfl rfl (by kernel_rfl) (by kernel_rfl) (by kernel_rfl) (fun _ _ _ h => h) (Or.inl ⟨by rfl, ?_⟩) (by assumption) ?_; rotate_left; (focus (intro w hSw; (try dsimp only at hSw); go_simp; (try with_reducible rfl))); (simp only [put_lit, List.set]))
            (refine take_at (i := 8) (oi := _) (v := ?_) rfl rfl (by kernel_rfl) (by kernel_rfl) (by kernel_rfl) (fun _ _ _ h => h) (Or.inl ⟨by rfl, ?_⟩) (by assumption) ?_; rotate_left; (focus (intro w hSw; (try dsimp only at hSw); go_simp; (try with_reducible rfl))); (simp only [put_lit, List.set]))
            (refine take_at (i := 9) (oi := _) (v := ?_) rfl rfl (by kernel_rfl) (by kernel_rfl) (by kernel_rfl) (fun _ _ _ h => h) (Or.inl ⟨by rfl, ?_⟩) (by assumption) ?_; rotate_left; (focus (intro w hSw; (try dsimp only at hSw); go_simp; (try with_reducible rfl))); (simp only [put_lit, List.set]))
            (refine take_at (i := 10) (oi := _) (v := ?_) rfl rfl (by kernel_rfl) (by kernel_rfl) (by kernel_rfl) (fun _ _ _ h => h) (Or.inl ⟨by rfl, ?_⟩) (by assumption) ?_; rotate_left; (focus (intro w hSw; (try dsimp only at hSw); go_simp; (try with_reducible rfl))); (simp only [put_lit, List.set]))
            (refine take_at (i := 11) (oi := _) (v := ?_) rfl rfl (by kernel_rfl) (by kernel_rfl) (by kernel_rfl) (fun _ _ _ h => h) (Or.inl ⟨by rfl, ?_⟩) (by assumption) ?_; rotate_left; (focus (intro w hSw; (try dsimp only at hSw); go_simp; (try with_reducible rfl))); (simp only [put_lit, List.set]))
            (refine take_at (i := 12) (oi := _) (v := ?_) rfl rfl (by kernel_rfl) (by kernel_rfl) (by kernel_rfl) (fun _ _ _ h => h) (Or.inl ⟨by rfl, ?_⟩) (by assumption) ?_; rotate_left; (focus (intro w hSw; (try dsimp only at hSw); go_simp; (try with_reducible rfl))); (simp only [put_lit, List.set]))
            (refine take_at (i := 13) (oi := _) (v := ?_) rfl rfl (by kernel_rfl) (by kernel_rfl) (by kernel_rfl) (fun _ _ _ h => h) (Or.inl ⟨by rfl, ?_⟩) (by assumption) ?_; rotate_left; (focus (intro w hSw; (try dsimp only at hSw); go_simp; (try with_reducible rfl))); (simp only [put_lit, List.set]))
            (refine take_at (i := 14) (oi := _) (v := ?_) rfl rfl (by kernel_rfl) (by kernel_rfl) (by kernel_rfl) (fun _ _ _ h => h) (Or.inl ⟨by rfl, ?_⟩) (by assumption) ?_; rotate_left; (focus (intro w hSw; (try dsimp only at hSw); go_simp; (try with_reducible rfl))); (simp only [put_lit, List.set]))
            refine wpAnyH_done (by kernel_rfl) (lastQ_list rfl ?_) _
            clear hHeld
            go_wp2_with fail
            have hr2 := Hrow.out.drew.set_ k (v + x * y')
            rw [tab_set] at hr2
            have Hr2 := Lib.hid hr2
            clear hr2
            go_roundw
            case rel =>
              refine ⟨k + 1, _, by omega, by go_num, Hr2.out, fun j hj => ?_, Hbx.out.trans (by (repeat (first | exact Below.refl _ _ | refine Below.drew ?_ | refine Below.alloc ?_ (by first | (simp; done) | (simp; omega) | omega) _ | refine Below.setCell ?_ (by first | (simp; done) | (simp; omega) | omega) _))), Hat.out.drew.set_ _ Hfr.out⟩
              by_cases hjm : j = k
              · subst hjm
                rw [if_pos rfl, if_pos (by omega), Hv.out, Hx.out, Hy.out, HGv.out]
              · rw [if_neg hjm, HG.out j hj]
                by_cases hc : j < k
                · rw [if_pos hc, if_pos (by omega)]
                · rw [if_neg hc, if_neg (by omega)]
            case measure => simp [intOf]; omega
          · have hkk : k = l8 := by omega
            clear hrow hG hbx hat
            go_wp2
            go_roundw
            case rel =>
              refine ⟨i + 1, G, by omega, by go_num, Hrow.out, fun j hj => ?_, Hbx.out⟩
              rw [HG.out j hj, rsum, ← Htr.out]
              by_cases hjk : j < k
              · rw [if_pos hjk]
              · rw [if_neg hjk, getD_out t (by have := Hl8.out; omega), Int.mul_zero]
            case measure => simp [intOf]; omega
      · have hii : i = n + 1 := by omega
        have hin : ¬ (i : Int) ≤ (n : Int) := by omega
        obtain ⟨S, hS⟩ : ∃ S, S = rsl (ptrim f) [P, Q] [R, R] n := ⟨_, rfl⟩
        have ht : tab (n + 1) F = S := by
          rw [hS]
          unfold rsl
          exact tab_ext fun j hj => by rw [HFv.out j hj, hii]
        have hat := Hrow.out.at_ (cap := n + 1) (by rw [tab_length]; exact Nat.le_refl _)
        rw [tab_length, ht] at hat
        have hSb : ∀ j, (S.getD j 0).natAbs ≤ 2305843009213693952 := fun j => by
          rw [hS, rsl_get hu2l (two_plen R R)]
          refine Nat.le_trans (HS.out (n + 1) j (Nat.le_refl _)) ?_
          refine Nat.le_trans (Nat.mul_le_mul (show n + 1 ≤ 7 by omega) (Nat.mul_le_mul_left _ (Nat.mul_le_mul (show n + 1 ≤ 7 by omega) h90))) (by decide)
        have Hm2 := Lib.hid (show rmob f a y b z = pctd (ptrim S) by rw [hS]; exact Hmob.out)
        have Hbo := Lib.hid (Hb4.out.trans (Hbw.out.mono Hb4.out.size))
        clear HFv Hrow ht hS Hmob Hbw
        by_cases hS0 : plen S = 0
        · have hnil : pctd (ptrim S) = [] := by
            rw [List.eq_nil_of_length_eq_zero (show (ptrim S).length = 0 by rw [ptrim_length, hS0])]; rfl
          have Hnil := Lib.hid hnil
          clear hSb hnil
          go_wp2_with fail
          refine (rnorm_zero _ _ _ _ _ hat (by omega) hS0).mono ?_
          rintro e w9 ⟨rfl, rfl⟩
          clear hat hS0
          go_wp2
          go_ret
          exact ⟨_, _, _, rfl, by rw [Hm2.out, Hnil.out]; exact I64At.nil _ _, Hbo.out⟩
        · go_wp2_with fail
          refine (rnorm_any _ _ _ _ _ hat (by omega) hS0 hSb).mono ?_
          rintro e w9 ⟨rfl, hr9, hb9⟩
          have hrp := rnu_pos (S := S)
          have hrn := rnu_neg (S := S)
          have hpS : plen S ≤ n + 1 := by have := plen_le S; rw [hat.length] at this; exact this
          have hVb : ∀ j, ((S.getD j 0).tdiv (rnu S)).natAbs ≤ 2305843009213693952 := fun j => by
            rw [Int.natAbs_tdiv]; exact Nat.le_trans (Nat.div_le_self _ _) (hSb j)
          obtain ⟨V, hV⟩ : ∃ V : Nat → Int, V = fun j => (S.getD j 0).tdiv (rnu S) := ⟨_, rfl⟩
          have hVb2 : ∀ j, (V j).natAbs ≤ 2305843009213693952 := fun j => by rw [hV]; exact hVb j
          have hrp2 : ¬ rnu S < 0 → tab (plen S) V = pctd (ptrim S) := fun h => by rw [hV]; exact hrp h
          have hrn2 : rnu S < 0 → tab (plen S) (fun j => -(V j)) = pctd (ptrim S) := fun h => by rw [hV]; exact hrn h
          rw [← hV] at hr9
          obtain ⟨u, hu⟩ : ∃ u, u = rnu S := ⟨_, rfl⟩
          rw [← hu] at hrp2 hrn2 ⊢
          obtain ⟨L, hL⟩ : ∃ L, L = plen S := ⟨_, rfl⟩
          rw [← hL] at hr9 hrp2 hrn2 hpS ⊢
          have HVb := Lib.hid hVb2
          have Hbo9 := Lib.hid (Hbo.out.trans (hb9.mono Hbo.out.size))
          have Hr9 := Lib.hid hr9
          have hg9 : w.heap.size ≤ wo.heap.size := Hbo.out.size
          clear hrp hrn hV hVb hVb2 hat hSb hS0 hu hL hr9 hb9
          by_cases hu0 : u < 0
          · have He := Lib.hid (hrn2 hu0)
            clear hrp2 hrn2
            go_wp2
            go_loopw [20] (fun s20 wx => ∃ k : Nat, k ≤ L ∧ s20 = .int .i64 (k : Int) ∧ IRow wx wo.heap.size (tab L (fun j => if j < k then -(V j) else V j)) ∧ Below w.heap.size w wx) (fun s20 _ => L - (intOf s20).toNat)
            case atStart => exact ⟨0, Nat.zero_le _, rfl, by rw [tab_ext (G := V) (fun j _ => if_neg (by omega))]; exact Hr9.out, Hbo9.out⟩
            case round =>
              clear Hr9 Hbo9
              obtain ⟨k, hk, rfl, hrow, hbx⟩ := hrel
              have Hrow := Lib.hid hrow
              have Hbx := Lib.hid hbx
              by_cases hkL : k < L
              · have e2 := hrow.cell (i := k) (by rw [tab_length]; exact hkL)
                rw [tab_get _ hkL, if_neg (by omega)] at e2
                have f2 := hrow.frozen k
                have hvb := HVb.out k
                obtain ⟨v, hv⟩ : ∃ v, v = V k := ⟨_, rfl⟩
                rw [← hv] at e2 hvb
                have d1 : IntKind.i64.wrap (-v) = -v := IntWalk.i64_in _ (by omega)
                have Hv := Lib.hid hv
                have i6 : (k : Int) < (L : Int) := by omega
                clear hrow hbx hv hvb
                go_wp2_with fail
                have hr2 := Hrow.out.set_ k (-v)
                rw [tab_set] at hr2
                have Hr2 := Lib.hid hr2
                clear hr2
                go_roundw
                case rel =>
                  refine ⟨k + 1, by omega, by go_num, ?_, Hbx.out.trans (by (repeat (first | exact Below.refl _ _ | refine Below.drew ?_ | refine Below.alloc ?_ (by first | (simp; done) | (simp; omega) | omega) _ | refine Below.setCell ?_ (by first | (simp; done) | (simp; omega) | omega) _)))⟩
                  rw [tab_ext (G := fun t => if t = k then -v else if t < k then -(V t) else V t) (fun j _ => ?_)]
                  · exact Hr2.out
                  · by_cases hjk : j = k
                    · subst hjk
                      rw [if_pos (by omega), if_pos rfl, Hv.out]
                    · rw [if_neg hjk]
                      by_cases hl : j < k
                      · rw [if_pos (by omega), if_pos hl]
                      · rw [if_neg (by omega), if_neg hl]
                case measure => simp [intOf]; omega
              · have hkn : k = L := by omega
                rw [hkn, tab_ext (G := fun j => -(V j)) (fun j hj => if_pos hj), He.out] at hrow
                have hat := hrow.at_ (cap := L) (by rw [← He.out, tab_length]; exact Nat.le_refl _)
                rw [show (pctd (ptrim S)).length = L by rw [← He.out, tab_length]] at hat
                have Hat := Lib.hid hat
                clear hrow hat hbx Hrow
                go_wp2
                go_ret
                exact ⟨_, _, _, rfl, by rw [Hm2.out]; exact Hat.out, Hbx.out⟩
          · have He := Lib.hid (hrp2 hu0)
            have hrow := Hr9.out
            rw [He.out] at hrow
            have hat := hrow.at_ (cap := L) (by rw [← He.out, tab_length]; exact Nat.le_refl _)
            rw [show (pctd (ptrim S)).length = L by rw [← He.out, tab_length]] at hat
            have Hat := Lib.hid hat
            clear hrow hat Hr9 hrp2 hrn2
            go_wp2
            go_ret
            exact ⟨_, _, _, rfl, by rw [Hm2.out]; exact Hat.out, Hbo9.out⟩
  · have hdt : decide (P < Q) = false := decide_eq_false hlt
    have Hnil := Lib.hid (rmob_nil (f := f) (a := a) (d := y) (b := b) (e := z) (.inr (by rw [← hP, ← hQ]; exact hlt)))
    rw [hdt]
    clear hF hf hdt
    go_wp2
    go_ret
    exact ⟨_, _, _, rfl, by rw [Hnil.out]; exact I64At.nil _ _, Hb.out⟩
end Go.Proofs.YtdihefmjfnlpcaaGreat

/- Slices of int8s; the walk of cylinderlaw15.Poly; what the law DescartesMobius asks, plain. -/
namespace Go.Proofs.YtdihefmjfnlpcaaGreat
open Go.RowKit

/-- A slice of int8s. -/
structure I8At (w : World) (A : Option Addr) (len cap : Nat) (p : List Int) : Prop where
  length : p.length = len
  range : ∀ c ∈ p, -128 ≤ c ∧ c ≤ 127
  cells : len = 0 ∨ ∃ b off, A = some ⟨b, off, none⟩ ∧ b < w.heap.size ∧ ∀ j, j < len → w.cell? ⟨b, off + j, none⟩ = some (.int .i8 (p.getD j 0))
theorem I8At.below {w w' : World} {A : Option Addr} {len cap : Nat} {p : List Int} (h : I8At w A len cap p) (hb : Below w.heap.size w w') : I8At w' A len cap p := by
  refine ⟨h.length, h.range, ?_⟩
  rcases h.cells with h0 | ⟨b, off, hA, hlt, hc⟩
  · exact .inl h0
  · exact .inr ⟨b, off, hA, Nat.lt_of_lt_of_le hlt hb.size, fun j hj => (hb.cell (p := ⟨b, off + j, none⟩) hlt).trans (hc j hj)⟩
theorem I8At.at_ {w : World} {A : Option Addr} {len cap : Nat} {p : List Int} (h : I8At w A len cap p) (hl : 0 < len) :
    ∃ b off, A = some ⟨b, off, none⟩ ∧ b < w.heap.size ∧ ∀ j, j < len → w.cell? ⟨b, off + j, none⟩ = some (.int .i8 (p.getD j 0)) := by
  rcases h.cells with h0 | h1
  · omega
  · exact h1

set_option maxRecDepth 100000 in
set_option maxHeartbeats 1000000 in
theorem pol15_any (A : Option Addr) (len cap : Nat) (p : List Int) (w : World) (h : I64At w A len cap p) (hm : len ≤ 1000) (hp : ∀ c ∈ p, I64 c) :
    Calls Tryz.prog 21 #[.slice A len cap] w fun e w' => ∃ A' l' c', e = .returned (.slice A' l' c') ∧ PolyN w' A' l' c' (ptrim p) ∧ Below w.heap.size w w' := by
  obtain ⟨i0, hi, hz0, hz1, hz2⟩ := info_parts info_i64
  have hlen := Lib.hid h.length
  have Hp := Lib.hid hp
  clear hp
  go_enter Tryz.func21, Tryz.ntmps21
  go_wp2
  go_loopw [3, 4] (fun v i wr => ∃ k : Nat, k ≤ len ∧ i = .int .i64 (k : Int) ∧ OwnI 2 wr w.heap.size v k p ∧ Below w.heap.size w wr) (fun _ i _ => len - (intOf i).toNat)
  case atStart => exact ⟨0, Nat.zero_le _, rfl, World.ownsRow_nil _ _ _ _, Below.refl _ _⟩
  case round =>
    obtain ⟨k, hk, rfl, hown, hbw⟩ := hrel
    have Hown := Lib.hid hown
    have Hbw := Lib.hid hbw
    clear hown
    by_cases hlt : k < len
    · obtain ⟨b, off, rfl, hb, hc⟩ := h.at_ (by omega)
      have hcell := (hbw.cell (p := ⟨b, off + k, none⟩) hb).trans (hc k hlt)
      have hg : p[k]?.getD 0 = p.getD k 0 := by rw [List.getD_eq_getElem?_getD]
      obtain ⟨c, hcv⟩ : ∃ c, c = p.getD k 0 := ⟨_, rfl⟩
      rw [← hcv] at hcell hg
      have Hg := Lib.hid hg
      clear hc h hbw hg hcv
      go_wp2_with (at_builtin; refine wpList_append_one rfl (.tmp 11) (.tmp 16) 75 rfl w.heap.size 2 i0 (.int .i64 0) 8 Tryz.underlying75 hi hz0 hz1 hz2 rfl _ (.int .i64 c) k _ rfl rfl Hown.out rfl (by omega) (by omega) Hbw.out.size ?_)
      intro v' w1 hown' hgrow
      have R := Lib.hid (OwnI.step (v' := v') (by rw [hlen.out]; omega) Hbw.out.size Hown.out Hbw.out (by rw [Hg.out]; exact hown') hgrow)
      clear hown' hgrow hcell
      go_wp2
      go_roundw
      case rel => exact ⟨k + 1, by omega, by go_num, R.out.1, R.out.2⟩
      case measure => simp [intOf]; omega
    · have hk2 : k = p.length := by rw [hlen.out]; omega
      have ho := Hown.out
      rw [hk2] at ho
      obtain ⟨A', cap', rfl, hat⟩ := ho.at_
      have hll : p.length ≤ 1000 := by rw [hlen.out]; omega
      have hkl : k = len := by omega
      subst hkl
      obtain ⟨L, hL⟩ : ∃ L, L = p.length := ⟨_, rfl⟩
      rw [← hL] at hat hk2 hll ⊢
      subst hk2
      clear ho h hbw hi hz0 hz1 hz2 hL
      have h64 := Hp.out
      go_wp2_with fail
      refine (pof_any _ _ _ _ _ hat h64 (by omega)).mono ?_
      rintro e w2 ⟨A2, l2, c2, rfl, h2, hb2⟩
      have H2 := Lib.hid h2
      have Hb2 := Lib.hid (Hbw.out.trans (hb2.mono Hbw.out.size))
      clear h2 hb2 hat
      go_wp2
      go_ret
      exact ⟨_, _, _, rfl, H2.out, Hb2.out⟩

theorem ptrim_of {p : List Int} (h : plen p = p.length) : ptrim p = p := by unfold ptrim; rw [h, List.take_length]
theorem pctd_trim (S : List Int) : ptrim (pctd (ptrim S)) = pctd (ptrim S) := by
  refine ptrim_of ?_
  have hl : (pctd (ptrim S)).length = plen S := by unfold pctd; rw [List.length_map, ptrim_length]
  rw [hl]
  by_cases h : plen S = 0
  · have := plen_le (pctd (ptrim S)); omega
  · have h1 : plen (pctd (ptrim S)) ≤ (plen S - 1) + 1 := by have := plen_le (pctd (ptrim S)); omega
    have h2 : (pctd (ptrim S)).getD (plen S - 1) 0 ≠ 0 := fun e => by
      have h3 := pctd_mul (ptrim S) (plen S - 1)
      rw [e, Int.mul_zero, ptrim_getD] at h3
      exact plead_ne h h3
    have := plen_eq _ _ h1 h2
    omega
theorem rmob_trim (f : List Int) (a d b e : Int) : ptrim (rmob f a d b e) = rmob f a d b e := by
  unfold rmob
  split
  · rfl
  · exact pctd_trim _
theorem rmob_bd {f : List Int} {a d b e : Int} (hl : plen f ≤ 7) (hF : ∀ j, (f.getD j 0).natAbs ≤ 128) (ha : a.natAbs ≤ 9) (hb : b.natAbs ≤ 9) (hd : d.natAbs ≤ 5) (he : e.natAbs ≤ 5) (j : Nat) : ((rmob f a d b e).getD j 0).natAbs ≤ 2305843009213693952 := by
  unfold rmob
  split
  · simp
  · rename_i h
    obtain ⟨n, hn⟩ : ∃ n, plen f = n + 1 := ⟨plen f - 1, by have : plen f ≠ 0 := fun e => h (.inl e); omega⟩
    rw [hn, Nat.add_sub_cancel, pctd_get, ptrim_getD, Int.natAbs_tdiv]
    refine Nat.le_trans (Nat.div_le_self _ _) ?_
    rw [rsl_get (two_plen _ _) (two_plen _ _)]
    have m1 : (a * e).natAbs ≤ 9 * 5 := by rw [Int.natAbs_mul]; exact Nat.mul_le_mul ha he
    have m2 : (b * d).natAbs ≤ 9 * 5 := by rw [Int.natAbs_mul]; exact Nat.mul_le_mul hb hd
    have m3 : (d * e).natAbs ≤ 5 * 5 := by rw [Int.natAbs_mul]; exact Nat.mul_le_mul hd he
    have hB1 : (([a * e, b * d] : List Int).getD 0 0).natAbs + (([a * e, b * d] : List Int).getD 1 0).natAbs ≤ 90 := by show (a * e).natAbs + (b * d).natAbs ≤ 90; omega
    have hB2 : (([d * e, d * e] : List Int).getD 0 0).natAbs + (([d * e, d * e] : List Int).getD 1 0).natAbs ≤ 90 := by show (d * e).natAbs + (d * e).natAbs ≤ 90; omega
    have h90 : 90 ^ n ≤ 531441000000 := Nat.le_trans (Nat.pow_le_pow_right (by decide) (show n ≤ 6 by omega)) (by decide)
    refine Nat.le_trans (rsum_bd (f := ptrim f) (n := n) (two_plen _ _) (two_plen _ _) (B := 90) (F := 128) hB1 hB2 (fun i => by rw [ptrim_getD]; exact hF i) j (n + 1) (Nat.le_refl _)) ?_
    exact Nat.le_trans (Nat.mul_le_mul (show n + 1 ≤ 7 by omega) (Nat.mul_le_mul_left _ (Nat.mul_le_mul (show n + 1 ≤ 7 by omega) h90))) (by decide)
theorem small_fr (p d : Int) : frn (p.tmod 10) (smd d) = p.tmod 10 ∧ frd (smd d) = smd d := by
  obtain ⟨h1, h2⟩ := smd_bd d
  unfold frn frd
  constructor
  · rw [if_neg (by omega)]
  · rw [if_neg (by omega), if_neg (by omega)]
theorem small_i8 (p d : Int) : I8 (p.tmod 10) ∧ I8 (smd d) := by
  obtain ⟨h1, h2⟩ := smd_bd d
  have h3 := smn_bd p
  unfold I8
  omega
end Go.Proofs.YtdihefmjfnlpcaaGreat
