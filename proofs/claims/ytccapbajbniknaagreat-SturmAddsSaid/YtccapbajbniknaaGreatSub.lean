/- The sequence of remainders of unidiv divides exactly, and its numbers are not too large. -/
import Derived.Test.YtccapbajbniknaaGreatDet
import Derived.Test.YtccapbajbniknaaGreatFed
import Derived.Test.YtccapbajbniknaaGreatGti
namespace Go.Proofs.YtccapbajbniknaaGreat

abbrev fn (p : List Int) : Row := fun k => p.getD k 0
/-- the first L summands of the product's coefficient, shifted -/
def qs (q g : Row) (i t : Nat) : Nat → Int
  | 0 => 0
  | L + 1 => qs q g i t L + q L * sh (i + L) g t
theorem span_qs {q g : Row} {i M : Nat} : ∀ L, i + L ≤ M → Span (rows M g) (fun t => qs q g i t L)
  | 0, _ => .zero
  | L + 1, h => .step (q L) (span_qs L (by omega)) (mem_rows g (by omega))
theorem qs_low {q g : Row} {i t : Nat} (h : t < i) : ∀ L, qs q g i t L = 0
  | 0 => rfl
  | L + 1 => by
    rw [qs, qs_low h L]
    unfold sh
    rw [if_pos (by omega)]; simp
theorem qs_cut {q g : List Int} {i t : Nat} (h : i ≤ t) : ∀ L, qs (fn q) (fn g) i t L = pcs q g (t - i) (min L (t - i + 1))
  | 0 => by simp [qs, pcs]
  | L + 1 => by
    rw [qs, qs_cut h L]
    unfold sh
    by_cases h1 : t < i + L
    · rw [if_pos h1, Int.mul_zero, Int.add_zero, show min (L + 1) (t - i + 1) = min L (t - i + 1) by omega]
    · rw [if_neg h1, show min (L + 1) (t - i + 1) = L + 1 by omega, show min L (t - i + 1) = L by omega, pcs, show t - (i + L) = t - i - L by omega]
theorem pcs_stop {q g : List Int} {k : Nat} : ∀ x L, q.length ≤ L → pcs q g k (L + x) = pcs q g k L
  | 0, _, _ => rfl
  | x + 1, L, h => by
    rw [← Nat.add_assoc, pcs, pcs_stop x L h, getD_out q (by omega)]; simp
theorem qs_pc {q g : List Int} {i t L : Nat} (h : i ≤ t) (hL : q.length ≤ L) : qs (fn q) (fn g) i t L = pc q g (t - i) := by
  rw [qs_cut h, pc]
  rcases Nat.le_total L (t - i + 1) with h1 | h1
  · rw [Nat.min_eq_left h1]
    have := pcs_stop (q := q) (g := g) (k := t - i) (t - i + 1 - L) L hL
    rw [show L + (t - i + 1 - L) = t - i + 1 by omega] at this
    rw [this]
  · rw [Nat.min_eq_right h1]
theorem fn_trim (p : List Int) : fn (ptrim p) = fn p := funext fun k => ptrim_getD p k
theorem psq_short (f g : List Int) : (psq f g).length ≤ plen f - (plen g - 1) := by
  unfold psq
  split
  · simp
  · rw [ptrim_length]
    refine Nat.le_trans (plen_le _) ?_
    rw [psn_length1]; exact Nat.le_refl _
theorem psDiv_of (a b : List Int) (hb : 1 ≤ plen b) (ha : plen b ≤ plen a) : PsDiv (fn b (plen b - 1)) (plen a - 1 - (plen b - 1) + 1) (fn a) (fn b) (fn (psr a b)) (plen a - 1) (plen b - 1) := by
  intro i j hj hi _
  have hs := span_qs (q := fn (psq a b)) (g := fn b) (i := i) (M := plen a - 1 - j) (plen a - (plen b - 1)) (by omega)
  have e : (fun t => qs (fn (psq a b)) (fn b) i t (plen a - (plen b - 1))) = (fun t => fn b (plen b - 1) ^ (plen a - 1 - (plen b - 1) + 1) * sh i (fn a) t - sh i (fn (psr a b)) t) := by
    funext t
    by_cases h : t < i
    · rw [qs_low h]; unfold sh; rw [if_pos h, if_pos h]; simp
    · rw [← fn_trim b, qs_pc (by omega) (psq_short a b), fn_trim b]
      unfold sh
      rw [if_neg h, if_neg h]
      have h1 := ps_id a b hb (t - i)
      have h2 : fn b (plen b - 1) = plead b := rfl
      rw [h2, show plen a - 1 - (plen b - 1) + 1 = plen a - (plen b - 1) by omega]
      show pc (psq a b) (ptrim b) (t - i) = plead b ^ (plen a - (plen b - 1)) * a.getD (t - i) 0 - (psr a b).getD (t - i) 0
      omega
  rw [← e]
  exact hs

theorem ps_ev (f g : List Int) (h : 1 ≤ plen g) (x : Int) : plead g ^ (plen f - (plen g - 1)) * ev f x = ev (psq f g) x * ev g x + ev (psr f g) x := by
  rw [← ev_psc, ← ev_trim g, ← ev_mul, ← ev_padd]
  exact ev_congr (fun k => by rw [psc_get, padd_get, polymul_getD, ps_id f g h]) x
/-- the sizes; no element of the sequence has a degree below e -/
structure GOK (G m n e N : Nat) : Prop where
  fit : G ^ N < BB ^ FW
  pos : 1 ≤ G
  e0 : max 2 (m + n - 2 * e) ≤ N
  e1 : ∀ x, x ≤ m → ∀ y, y ≤ n → e + 1 ≤ y → y ≤ x → max 1 (m + n + 2 - 2 * x) * (x - y) ≤ N
  e2 : ∀ x, x ≤ m → ∀ y, y ≤ n → e + 1 ≤ y → y ≤ x → (m + n - 2 * x) * (x - y - 1) ≤ N
  e3 : ∀ y, y ≤ n → ∀ z, z ≤ n → e ≤ z → z < y → y ≤ m → (m + n - 2 * y) * (y - z) ≤ N
  sm : m + n ≤ 1000
theorem GOK.lt {G m n e N : Nat} (h : GOK G m n e N) {x i : Nat} (hx : x ≤ G ^ i) (hi : i ≤ N) : x < BB ^ FW := Nat.lt_of_le_of_lt (Nat.le_trans hx (Nat.pow_le_pow_right h.pos hi)) h.fit
theorem GOK.dl {G m n e N : Nat} (h : GOK G m n e N) {x i E : Nat} (hx : x ≤ G ^ i) (hi : i ≤ E) : dlen x ≤ FW * (E + 1) := by
  have h1 : G < BB ^ FW := h.lt (i := 1) (by rw [Nat.pow_one]; exact Nat.le_refl _) (by have := h.e0; omega)
  have h2 : x < BB ^ (FW * (E + 1)) := by
    refine Nat.lt_of_le_of_lt (Nat.le_trans hx (Nat.pow_le_pow_right h.pos hi)) ?_
    rw [Nat.pow_mul]
    exact Nat.lt_of_lt_of_le (Nat.lt_of_le_of_lt (Nat.pow_le_pow_right h.pos (Nat.le_succ E)) (Nat.pow_lt_pow_left h1 (by omega))) (Nat.le_refl _)
  exact dlen_le_of_lt h2
theorem GOK.sm' {G m n e N : Nat} (h : GOK G m n e N) {x i : Nat} (hx : x ≤ G ^ i) (hi : i ≤ 10000000) : Sm x := Nat.le_trans (h.dl hx (Nat.le_refl i)) (by rw [FW_eq]; omega)

/-- what holds before each step -/
structure SInv (f g : List Int) (m n G e : Nat) (t : RS) (C : Int) : Prop where
  prs : Prs (fn f) m (fn g) n (fn t.a) (t.a.length - 1) (fn t.b) (t.b.length - 1) C t.s
  dv : t.dv.natAbs = C.natAbs * t.s.natAbs ^ (t.a.length - t.b.length)
  ta : plen t.a = t.a.length
  tb : plen t.b = t.b.length
  b0 : 1 ≤ t.b.length
  lb : t.b.length ≤ t.a.length
  la : t.a.length ≤ m + 1
  lg : t.b.length ≤ n + 1
  ab : ∀ k, (t.a.getD k 0).natAbs ≤ G ^ (m + n + 2)
  bs : ∀ k, (t.b.getD k 0).natAbs ≤ G ^ (max 1 (m + n + 2 - 2 * (t.a.length - 1)))
  ss : t.s.natAbs ≤ G ^ (m + n - 2 * (t.a.length - 1))
  Cs : C.natAbs ≤ G ^ (m + n + 2)
  low : e + 1 ≤ t.b.length
  ca : Comb f g t.a
  cb : Comb f g t.b
  st : t.b.length < t.a.length ∨ (t.a.length = m + 1 ∧ n ≤ m)

theorem natAbs_dvd' {a b : Int} {c : Nat} (h : b.natAbs = a.natAbs * c) : a ∣ b := Int.natAbs_dvd_natAbs.1 ⟨c, h⟩
theorem tdiv_abs {a b : Int} {c : Nat} (ha : a ≠ 0) (h : b.natAbs = a.natAbs * c) : (b.tdiv a).natAbs = c := by
  rw [Int.natAbs_tdiv, h]; exact Nat.mul_div_cancel_left _ (Int.natAbs_pos.2 ha)
theorem map_tdiv_getD (p : List Int) (d : Int) (k : Nat) : (p.map (·.tdiv d)).getD k 0 = (p.getD k 0).tdiv d := by
  rw [List.getD_eq_getElem?_getD, List.getD_eq_getElem?_getD, List.getElem?_map]
  cases p[k]? with
  | none => simp
  | some x => simp
theorem last_ne {p : List Int} (h : plen p = p.length) (h1 : 1 ≤ p.length) : p.getD (p.length - 1) 0 ≠ 0 := plen_lead p _ (by omega)
theorem psr_trim (a b : List Int) : plen (psr a b) = (psr a b).length := by
  unfold psr
  split <;> rw [plen_ptrim, ptrim_length]

section
variable {f g : List Int} {m n G e N : Nat} {t : RS} {C : Int}
theorem SInv.dv0 (h : SInv f g m n G e t C) : t.dv ≠ 0 := by
  intro e
  have h1 := h.dv
  rw [e] at h1
  have : 0 < C.natAbs * t.s.natAbs ^ (t.a.length - t.b.length) := Nat.mul_pos (Int.natAbs_pos.2 h.prs.C0) (Nat.pow_pos (Int.natAbs_pos.2 h.prs.s0))
  rw [← h1] at this
  simp at this
theorem SInv.psd (h : SInv f g m n G e t C) : PsDiv (fn t.b (t.b.length - 1)) (t.a.length - 1 - (t.b.length - 1) + 1) (fn t.a) (fn t.b) (fn (psr t.a t.b)) (t.a.length - 1) (t.b.length - 1) := by
  have h1 := psDiv_of t.a t.b (by rw [h.tb]; exact h.b0) (by rw [h.ta, h.tb]; exact h.lb)
  rw [h.ta, h.tb] at h1
  exact h1
theorem SInv.rz (h : SInv f g m n G e t C) : (psr t.a t.b).length < t.b.length := by
  have h1 := psr_plen t.a t.b (by rw [h.tb]; exact h.b0)
  rw [psr_trim, h.tb] at h1
  exact h1
theorem SInv.rem (h : SInv f g m n G e t C) (hr : psr t.a t.b ≠ []) (k : Nat) : ((psr t.a t.b).getD k 0).natAbs = t.dv.natAbs * (sres (fn f) m (fn g) n (t.b.length - 1 - 1) k).natAbs := by
  have h1 := h.rz
  have h0 : 0 < (psr t.a t.b).length := List.length_pos_iff.2 hr
  have h2 := h.prs.rem (r := fn (psr t.a t.b)) h.psd (fun t ht => getD_out _ (by omega)) (by omega) k
  have hlb := h.lb
  rw [show t.a.length - 1 - (t.b.length - 1) = t.a.length - t.b.length by omega, ← h.dv] at h2
  exact h2
theorem SInv.rest (h : SInv f g m n G e t C) (hr : psr t.a t.b ≠ []) (k : Nat) : (t.rest.getD k 0).natAbs = (sres (fn f) m (fn g) n (t.b.length - 1 - 1) k).natAbs ∧ (psr t.a t.b).getD k 0 = t.dv * t.rest.getD k 0 := by
  have h1 := h.rem hr k
  unfold RS.rest
  rw [map_tdiv_getD, ptrim_getD]
  exact ⟨tdiv_abs h.dv0 h1, (Int.mul_tdiv_cancel' (natAbs_dvd' h1)).symm⟩
theorem SInv.evs (h : SInv f g m n G e t C) (hr : psr t.a t.b ≠ []) : Comb t.a t.b t.rest ∧ Comb t.b t.rest t.a := by
  have hb : 1 ≤ plen t.b := by rw [h.tb]; exact h.b0
  have hd : ∀ x, ev (psr t.a t.b) x = t.dv * ev t.rest x := fun x => by
    rw [← ev_psc]
    exact ev_congr (fun k => by rw [psc_get]; exact (h.rest hr k).2) x
  have hl : plead t.b ^ (plen t.a - (plen t.b - 1)) ≠ 0 := pow_ne (fun e => by have := plead_zero.1 e; omega) _
  refine ⟨⟨t.dv, [plead t.b ^ (plen t.a - (plen t.b - 1))], psc (-1) (psq t.a t.b), h.dv0, fun x => ?_⟩, ⟨_, psq t.a t.b, [t.dv], hl, fun x => ?_⟩⟩
  · rw [ev_const, ev_psc, ps_ev t.a t.b hb, ← hd, Int.mul_assoc, Int.neg_mul, Int.one_mul]
    omega
  · rw [ev_const, ps_ev t.a t.b hb, hd]
theorem SInv.restLen (_h : SInv f g m n G e t C) : t.rest.length = (psr t.a t.b).length := by
  unfold RS.rest
  rw [List.length_map, ptrim_length, psr_trim]
theorem SInv.restTrim (h : SInv f g m n G e t C) (hr : psr t.a t.b ≠ []) : plen t.rest = t.rest.length := by
  have h0 : 0 < (psr t.a t.b).length := List.length_pos_iff.2 hr
  have hl := h.restLen
  have h1 := last_ne (psr_trim t.a t.b) h0
  have h2 := (h.rest hr ((psr t.a t.b).length - 1)).2
  have h3 : t.rest.getD ((psr t.a t.b).length - 1) 0 ≠ 0 := fun e => h1 (by rw [h2, e, Int.mul_zero])
  have h4 := plen_eq t.rest ((psr t.a t.b).length - 1) (by have := plen_le t.rest; omega) h3
  omega
theorem SInv.psi (h : SInv f g m n G e t C) : (t.b.length < t.a.length ∧ t.s'.natAbs * t.s.natAbs ^ (t.a.length - 1 - (t.b.length - 1) - 1) = (fn t.b (t.b.length - 1)).natAbs ^ (t.a.length - 1 - (t.b.length - 1)) ∧ t.s'.natAbs = (sres (fn f) m (fn g) n (t.b.length - 1) (t.b.length - 1)).natAbs) ∨ (t.b.length = t.a.length ∧ t.s' = t.s ∧ t.s'.natAbs = 1) := by
  have hlb := h.lb
  have hb0 := h.b0
  unfold RS.s' RS.d
  rcases Nat.lt_or_ge t.b.length t.a.length with h1 | h1
  · left
    rw [if_pos (by omega)]
    have h2 := h.prs.psi (by omega)
    have h3 : (t.lead ^ (t.a.length - t.b.length)).natAbs = (t.s ^ (t.a.length - t.b.length - 1)).natAbs * (sres (fn f) m (fn g) n (t.b.length - 1) (t.b.length - 1)).natAbs := by
      rw [Int.natAbs_pow, Int.natAbs_pow]
      have h4 : t.lead.natAbs = (fn t.b (t.b.length - 1)).natAbs := by
        unfold RS.lead plead
        rw [Int.natAbs_neg, h.tb]
      rw [h4]
      rw [show t.a.length - 1 - (t.b.length - 1) = t.a.length - t.b.length by omega] at h2
      exact h2
    have h5 := tdiv_abs (pow_ne h.prs.s0 _) h3
    rw [h5]
    refine ⟨h1, ?_, rfl⟩
    rw [h2, Nat.mul_comm]
  · right
    rw [if_neg (by omega)]
    exact ⟨by omega, rfl, h.prs.eq (by omega)⟩
theorem sres_G (hf : ∀ k, (f.getD k 0).natAbs * (m + n) ≤ G) (hg : ∀ k, (g.getD k 0).natAbs * (m + n) ≤ G) {j : Nat} (hjm : j ≤ m) (hjn : j ≤ n) (hx : 0 < n - j + (m - j)) (k : Nat) : (sres (fn f) m (fn g) n j k).natAbs ≤ G ^ (m + n - 2 * j) := by
  obtain ⟨H, hH⟩ : ∃ H, H = G / (m + n) := ⟨_, rfl⟩
  have hp : 0 < m + n := by omega
  have h1 : ∀ k, (fn f k).natAbs ≤ H := fun k => by rw [hH]; exact (Nat.le_div_iff_mul_le hp).2 (hf k)
  have h2 : ∀ k, (fn g k).natAbs ≤ H := fun k => by rw [hH]; exact (Nat.le_div_iff_mul_le hp).2 (hg k)
  refine Nat.le_trans (sres_le h1 h2 hx) ?_
  rw [show m + n - 2 * j = n - j + (m - j) by omega]
  refine Nat.pow_le_pow_left ?_ _
  calc (n - j + (m - j)) * H ≤ (m + n) * H := Nat.mul_le_mul_right _ (by omega)
    _ = H * (m + n) := Nat.mul_comm _ _
    _ ≤ G := by rw [hH]; exact Nat.div_mul_le_self _ _
theorem SInv.step (h : SInv f g m n G e t C) (ok : GOK G m n e N) (hlow : ∀ p, Comb f g p → 1 ≤ plen p → e + 1 ≤ plen p) (hf : ∀ k, (f.getD k 0).natAbs * (m + n) ≤ G) (hg : ∀ k, (g.getD k 0).natAbs * (m + n) ≤ G) (hr : psr t.a t.b ≠ []) : t.goes ∧ SInv f g m n G e t.next (fn t.b (t.b.length - 1)) ∧ t.rest.length < t.b.length := by
  have hlb := h.lb
  have hb0 := h.b0
  have hla := h.la
  have hlg := h.lg
  have hrz := h.rz
  have hrl := h.restLen
  have h0 : 0 < (psr t.a t.b).length := List.length_pos_iff.2 hr
  have hsm := ok.sm
  have hrest := h.rest hr
  have hrs : ∀ k, (t.rest.getD k 0).natAbs ≤ G ^ (m + n + 2 - 2 * (t.b.length - 1)) := fun k => by
    rw [(hrest k).1]
    have := sres_G hf hg (j := t.b.length - 1 - 1) (by omega) (by omega) (by omega) k
    rw [show m + n - 2 * (t.b.length - 1 - 1) = m + n + 2 - 2 * (t.b.length - 1) by omega] at this
    exact this
  have hs' : t.s'.natAbs ≤ G ^ (m + n - 2 * (t.b.length - 1)) := by
    rcases h.psi with ⟨h1, _, h3⟩ | ⟨h1, _, h3⟩
    · rw [h3]
      exact sres_G hf hg (by omega) (by omega) (by omega) _
    · rw [h3]; exact Nat.pow_pos ok.pos
  have hs'0 : t.s' ≠ 0 := by
    intro e
    rcases h.psi with ⟨_, h1, _⟩ | ⟨_, _, h1⟩
    · have : 0 < (fn t.b (t.b.length - 1)).natAbs ^ (t.a.length - 1 - (t.b.length - 1)) := Nat.pow_pos (Int.natAbs_pos.2 h.prs.b0)
      rw [← h1, e] at this
      simp at this
    · rw [e] at h1; simp at h1
  have hlead : t.lead.natAbs = (fn t.b (t.b.length - 1)).natAbs := by
    unfold RS.lead plead
    rw [Int.natAbs_neg, h.tb]
  have hC : (fn t.b (t.b.length - 1)).natAbs ≤ G ^ (max 1 (m + n + 2 - 2 * (t.a.length - 1))) := h.bs _
  have hdv : t.dv.natAbs ≤ G ^ (m + n + 2 + (m + n - 2 * (t.a.length - 1)) * (t.a.length - t.b.length)) := by
    rw [h.dv, Nat.pow_add, Nat.pow_mul]
    exact Nat.mul_le_mul h.Cs (Nat.pow_le_pow_left h.ss _)
  have hexp : (m + n - 2 * (t.a.length - 1)) * (t.a.length - t.b.length) ≤ 1000 * 1000 := Nat.mul_le_mul (by omega) (by omega)
  have he0 := ok.e0
  have hlw := h.low
  have crest : Comb f g t.rest := Comb.trans h.ca h.cb (h.evs hr).1
  have hrt := h.restTrim hr
  have hlr := hlow t.rest crest (by omega)
  refine ⟨⟨fun c hc => ?_, by omega, h.dv0, ok.sm' hdv (by omega), h.prs.s0, ok.lt h.ss (by omega), ?_, ?_, hs'0, ok.lt hs' (by omega), ?_, by omega⟩, ⟨?_, ?_, h.tb, h.restTrim hr, ?_, ?_, ?_, ?_, ?_, ?_, hs', ?_, ?_, h.cb, crest, .inl (show t.rest.length < t.b.length by omega)⟩, by omega⟩
  · -- the remainder
    obtain ⟨k, hk, rfl⟩ := List.mem_iff_getElem.1 hc
    have h1 := (hrest k).2
    have h2 : (psr t.a t.b)[k] = (psr t.a t.b).getD k 0 := by rw [List.getD_eq_getElem?_getD, List.getElem?_eq_getElem hk]; rfl
    have h3 : ((psr t.a t.b)[k]).natAbs ≤ G ^ (m + n + 2 + (m + n - 2 * (t.a.length - 1)) * (t.a.length - t.b.length) + (m + n + 2)) := by
      rw [h2, h1, Int.natAbs_mul, Nat.pow_add]
      exact Nat.mul_le_mul hdv (Nat.le_trans (hrs k) (Nat.pow_le_pow_right ok.pos (by omega)))
    exact ok.sm' h3 (by omega)
  · show (t.lead ^ t.d).natAbs < BB ^ FW
    rw [Int.natAbs_pow, hlead]
    refine ok.lt (i := max 1 (m + n + 2 - 2 * (t.a.length - 1)) * t.d) (by rw [Nat.pow_mul]; exact Nat.pow_le_pow_left hC _) ?_
    have := ok.e1 (t.a.length - 1) (by omega) (t.b.length - 1) (by omega) (by omega) (by omega)
    unfold RS.d
    rw [show t.a.length - 1 - (t.b.length - 1) = t.a.length - t.b.length by omega] at this
    exact this
  · show (t.s ^ (t.d - 1)).natAbs < BB ^ FW
    rw [Int.natAbs_pow]
    refine ok.lt (i := (m + n - 2 * (t.a.length - 1)) * (t.d - 1)) (by rw [Nat.pow_mul]; exact Nat.pow_le_pow_left h.ss _) ?_
    have := ok.e2 (t.a.length - 1) (by omega) (t.b.length - 1) (by omega) (by omega) (by omega)
    unfold RS.d
    rw [show t.a.length - 1 - (t.b.length - 1) = t.a.length - t.b.length by omega] at this
    exact this
  · show (t.s' ^ (t.b.length - t.rest.length)).natAbs < BB ^ FW
    rw [Int.natAbs_pow]
    refine ok.lt (i := (m + n - 2 * (t.b.length - 1)) * (t.b.length - t.rest.length)) (by rw [Nat.pow_mul]; exact Nat.pow_le_pow_left hs' _) ?_
    have := ok.e3 (t.b.length - 1) (by omega) (t.rest.length - 1) (by omega) (by omega) (by omega) (by omega)
    rw [show t.b.length - 1 - (t.rest.length - 1) = t.b.length - t.rest.length by omega] at this
    exact this
  · -- the next state
    show Prs (fn f) m (fn g) n (fn t.b) (t.b.length - 1) (fn t.rest) (t.rest.length - 1) _ t.s'
    refine h.prs.next h.psd (by omega) (fun k => (hrest k).2) (by rw [h.dv]; congr 2; omega) (last_ne (h.restTrim hr) (by omega)) (fun k hk => getD_out _ (by omega)) ?_
    rcases h.psi with ⟨h1, h2, _⟩ | ⟨h1, _, h3⟩
    · exact .inl ⟨by omega, h2⟩
    · exact .inr ⟨by omega, h3⟩
  · show (t.lead * t.s' ^ (t.b.length - t.rest.length)).natAbs = _
    rw [Int.natAbs_mul, Int.natAbs_pow, hlead]
    rfl
  · show 1 ≤ t.rest.length; omega
  · show t.rest.length ≤ t.b.length; omega
  · show t.b.length ≤ m + 1; omega
  · show t.rest.length ≤ n + 1; omega
  · intro k
    exact Nat.le_trans (h.bs k) (Nat.pow_le_pow_right ok.pos (by omega))
  · intro k
    exact Nat.le_trans (hrs k) (Nat.pow_le_pow_right ok.pos (Nat.le_max_right _ _))
  · exact Nat.le_trans hC (Nat.pow_le_pow_right ok.pos (by omega))
  · show e + 1 ≤ t.rest.length; omega
theorem SInv.fits (h : SInv f g m n G e t C) (ok : GOK G m n e N) : t.fits := by
  have hlb := h.lb
  have hla := h.la
  have hsm := ok.sm
  have he0 := ok.e0
  have hlw := h.low
  have hst := h.st
  refine ⟨fun k => ok.lt (h.bs k) (by omega), by rw [h.tb]; exact h.b0, fun k => ?_, by omega, hlb⟩
  exact Nat.le_trans (ok.dl (h.ab k) (Nat.le_refl _)) (by rw [FW_eq]; omega)
theorem SInv.rok (ok : GOK G m n e N) (hlow : ∀ p, Comb f g p → 1 ≤ plen p → e + 1 ≤ plen p) (hf : ∀ k, (f.getD k 0).natAbs * (m + n) ≤ G) (hg : ∀ k, (g.getD k 0).natAbs * (m + n) ≤ G) : ∀ (k : Nat) (t : RS) (C : Int), SInv f g m n G e t C → t.b.length ≤ k → rOK k t
  | 0, t, C, h, hk => by have := h.b0; omega
  | k + 1, t, C, h, hk => ⟨h.fits ok, fun hr => by
      obtain ⟨h1, h2, h3⟩ := h.step ok hlow hf hg hr
      exact ⟨h1, SInv.rok ok hlow hf hg k t.next _ h2 (by show t.rest.length ≤ k; omega)⟩⟩
/-- the elements of the sequence are not too large -/
theorem SInv.els (ok : GOK G m n e N) (hlow : ∀ p, Comb f g p → 1 ≤ plen p → e + 1 ≤ plen p) (hf : ∀ k, (f.getD k 0).natAbs * (m + n) ≤ G) (hg : ∀ k, (g.getD k 0).natAbs * (m + n) ≤ G) : ∀ (k : Nat) (t : RS) (C : Int), SInv f g m n G e t C → ∀ p ∈ rsq k t, (∀ k, (p.getD k 0).natAbs ≤ G ^ (m + n + 2)) ∧ p.length ≤ n + 1 ∧ plen p = p.length ∧ 1 ≤ p.length
  | 0, t, C, h, p, hp => by simp [rsq] at hp
  | k + 1, t, C, h, p, hp => by
    by_cases hr : psr t.a t.b = []
    · simp [rsq, hr] at hp
    · obtain ⟨_, h2, _⟩ := h.step ok hlow hf hg hr
      rw [rsq, if_neg hr] at hp
      rcases List.mem_cons.1 hp with rfl | hp
      · exact ⟨fun j => Nat.le_trans (h2.bs j) (Nat.pow_le_pow_right ok.pos (by omega)), h2.lg, h2.tb, h2.b0⟩
      · exact SInv.els ok hlow hf hg k t.next _ h2 p hp
/-- the elements of the sequence are the smaller, the higher their degree -/
theorem SInv.els_deg (ok : GOK G m n e N) (hlow : ∀ p, Comb f g p → 1 ≤ plen p → e + 1 ≤ plen p) (hf : ∀ k, (f.getD k 0).natAbs * (m + n) ≤ G) (hg : ∀ k, (g.getD k 0).natAbs * (m + n) ≤ G) : ∀ (k : Nat) (t : RS) (C : Int), SInv f g m n G e t C → ∀ p ∈ rsq k t, ∀ j, (p.getD j 0).natAbs ≤ G ^ (max 1 (m + n + 2 - 2 * p.length))
  | 0, t, C, h, p, hp => by simp [rsq] at hp
  | k + 1, t, C, h, p, hp => by
    by_cases hr : psr t.a t.b = []
    · simp [rsq, hr] at hp
    · obtain ⟨_, h2, h3⟩ := h.step ok hlow hf hg hr
      rw [rsq, if_neg hr] at hp
      rcases List.mem_cons.1 hp with rfl | hp
      · intro j
        refine Nat.le_trans (h2.bs j) (Nat.pow_le_pow_right ok.pos ?_)
        show max 1 (m + n + 2 - 2 * (t.b.length - 1)) ≤ _
        omega
      · exact SInv.els_deg ok hlow hf hg k t.next _ h2 p hp
end
theorem sinv_start {f g : List Int} {m n G e : Nat} (he : e ≤ n) (hf1 : f.length = m + 1) (hg1 : g.length = n + 1) (tf : plen f = f.length) (tg : plen g = g.length) (hmn : n ≤ m) (hG : 1 ≤ G) (hf : ∀ k, (f.getD k 0).natAbs ≤ G) (hg : ∀ k, (g.getD k 0).natAbs ≤ G) :
    SInv f g m n G e ⟨f, g, -1, (-1) ^ (f.length - g.length + 1)⟩ 1 := by
  refine ⟨?_, ?_, tf, tg, by dsimp only; omega, by dsimp only; omega, by dsimp only; omega, by dsimp only; omega, fun k => ?_, fun k => ?_, Nat.pow_pos hG, Nat.pow_pos hG, by dsimp only; omega, Comb.left _ _, Comb.right _ _, .inr ⟨hf1, hmn⟩⟩
  · have h := Prs.start (f := fn f) (g := fn g) (m := m) (n := n) (s := -1) rfl hmn (by have := last_ne tg (by omega); rw [hg1] at this; exact this) (fun t ht => getD_out _ (by omega))
    simp only [hf1, hg1, Nat.add_sub_cancel]
    exact h
  · rw [Int.natAbs_pow]; simp
  · exact Nat.le_trans (hf k) (by calc G = G ^ 1 := (Nat.pow_one _).symm
                                    _ ≤ _ := Nat.pow_le_pow_right hG (by omega))
  · exact Nat.le_trans (hg k) (by calc G = G ^ 1 := (Nat.pow_one _).symm
                                    _ ≤ _ := Nat.pow_le_pow_right hG (Nat.le_max_left _ _))
end Go.Proofs.YtccapbajbniknaaGreat
