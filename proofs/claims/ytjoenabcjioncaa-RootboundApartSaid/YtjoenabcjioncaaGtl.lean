/- Laws of greatest common divisors: with zeros, common factors, commutative, associative. Plain: no program. -/
import Derived.Test.YtjoenabcjioncaaGtk
import Derived.Test.YtjoenabcjioncaaSta
namespace Go.Proofs.Ytjoenabcjioncaa

/-- the polynomial with a positive leading coefficient -/
def ppos (g : List Int) : List Int := if plead g < 0 then pmn (ptrim g) else ptrim g
theorem pmn_getD (p : List Int) (k : Nat) : (pmn p).getD k 0 = -p.getD k 0 := by
  unfold pmn
  rw [List.getD_eq_getElem?_getD, List.getD_eq_getElem?_getD, List.getElem?_map]
  cases p[k]? with
  | none => simp
  | some x => simp
theorem ppos_or (g : List Int) : (∀ k, (ppos g).getD k 0 = g.getD k 0) ∧ ¬ plead g < 0 ∨ (∀ k, (ppos g).getD k 0 = -g.getD k 0) ∧ plead g < 0 := by
  unfold ppos
  by_cases h : plead g < 0
  · right
    rw [if_pos h]
    exact ⟨fun k => by rw [pmn_getD, ptrim_getD], h⟩
  · left
    rw [if_neg h]
    exact ⟨fun k => ptrim_getD g k, h⟩
theorem ppos_plen (g : List Int) : plen (ppos g) = plen g := by
  have key : ∀ p q : List Int, (∀ k, p.getD k 0 = 0 ↔ q.getD k 0 = 0) → plen p ≤ plen q := fun p q h => plen_le_of fun k hk => (h k).2 (getD_ge_plen q k hk)
  have h : ∀ k, (ppos g).getD k 0 = 0 ↔ g.getD k 0 = 0 := fun k => by
    rcases ppos_or g with ⟨h1, _⟩ | ⟨h1, _⟩ <;> rw [h1] <;> omega
  exact Nat.le_antisymm (key _ _ h) (key _ _ (fun k => (h k).symm))
theorem ppos_lead {g : List Int} (h : plen g ≠ 0) : 0 < plead (ppos g) := by
  have h0 : plead g ≠ 0 := fun e => h (plead_zero.1 e)
  have e : plead (ppos g) = (ppos g).getD (plen g - 1) 0 := by unfold plead; rw [ppos_plen]
  rw [e]
  have e2 : plead g = g.getD (plen g - 1) 0 := rfl
  rcases ppos_or g with ⟨h1, h2⟩ | ⟨h1, h2⟩ <;> rw [h1] <;> omega
theorem ppos_cont (g : List Int) : pcont (ppos g) = pcont g := pcont_ext fun k => by
  rcases ppos_or g with ⟨h1, _⟩ | ⟨h1, _⟩ <;> rw [h1] <;> omega
theorem ppos_trim (g : List Int) : ptrim (ppos g) = ppos g := by
  have hl : (ppos g).length = plen g := by
    unfold ppos
    split
    · unfold pmn; rw [List.length_map, ptrim_length]
    · rw [ptrim_length]
  unfold ptrim
  rw [ppos_plen, ← hl, List.take_length]
theorem ppos_ev (g : List Int) : ∃ c : Int, c ≠ 0 ∧ (∀ x, ev (ppos g) x = c * ev g x) ∧ ∀ k, (ppos g).getD k 0 = c * g.getD k 0 := by
  rcases ppos_or g with ⟨h1, _⟩ | ⟨h1, _⟩
  · exact ⟨1, by decide, fun x => by rw [ev_congr h1 x, Int.one_mul], fun k => by rw [h1, Int.one_mul]⟩
  · refine ⟨-1, by decide, fun x => ?_, fun k => by rw [h1]; omega⟩
    rw [← ev_psc]
    exact ev_congr (fun k => by rw [h1, psc_get]; omega) x
theorem ppos_dvq (g : List Int) : Dvq (ppos g) g ∧ Dvq g (ppos g) := by
  obtain ⟨c, hc, _, h⟩ := ppos_ev g
  exact ⟨dvq_scale (e := 1) (e' := c) hc (fun k => by rw [h, Int.one_mul]), dvq_scale (e := c) (e' := 1) (by decide) (fun k => by rw [h, Int.one_mul])⟩
theorem IsGcd.symm {f g D : List Int} (h : IsGcd f g D) : IsGcd g f D := by
  obtain ⟨c, u, v, hc, e⟩ := h.c
  exact ⟨h.trim, h.lead, by rw [Nat.gcd_comm]; exact h.cont, h.r, h.l, c, v, u, hc, fun x => by rw [e]; omega⟩
theorem isgcd_zero {f g : List Int} (hf : plen f = 0) (hg : plen g ≠ 0) : IsGcd f g (ppos g) := by
  have hz : ∀ k, f.getD k 0 = 0 := fun k => getD_ge_plen f k (by omega)
  obtain ⟨c, hc, h, _⟩ := ppos_ev g
  refine ⟨ppos_trim g, ppos_lead hg, by rw [ppos_cont, pcont_zero hf, Nat.gcd_zero_left], Dvq.zero _ hz, (ppos_dvq g).1, (Comb.right f g).of_dvq ⟨1, c, by decide, fun x => by rw [h, Int.one_mul]⟩⟩
theorem Dvq.mul {f g : List Int} (h : Dvq f g) (p : List Int) : Dvq (polymul f p) (polymul g p) := by
  obtain ⟨c, q, hc, e⟩ := h
  refine ⟨c, q, hc, fun x => ?_⟩
  rw [ev_mul, ev_mul, ← Int.mul_assoc, e, Int.mul_assoc]
/-- a common factor -/
theorem IsGcd.mul {f g D h : List Int} (k : IsGcd f g D) (h0 : plen h ≠ 0) : IsGcd (polymul f h) (polymul g h) (ppos (polymul D h)) := by
  have hD : plen D ≠ 0 := fun e => by have := plead_zero.2 e; have := k.lead; omega
  have hm := plen_mul (f := D) (g := h) (by omega) (by omega)
  obtain ⟨c, hc, hev, _⟩ := ppos_ev (polymul D h)
  obtain ⟨c2, u, v, hc2, e⟩ := k.c
  refine ⟨ppos_trim _, ppos_lead (by omega), ?_, (ppos_dvq _).1.trans (k.l.mul h), (ppos_dvq _).1.trans (k.r.mul h), ?_⟩
  · rw [ppos_cont, pcont_mul, pcont_mul, pcont_mul, k.cont, Nat.gcd_mul_right]
  · refine ⟨c2, psc c u, psc c v, hc2, fun x => ?_⟩
    rw [hev]
    simp only [ev_mul, ev_psc]
    have h1 : c2 * (c * (ev D x * ev h x)) = c * ev h x * (c2 * ev D x) := by ac_rfl
    rw [h1, e, Int.mul_add]
    congr 1 <;> ac_rfl
theorem Comb.of_l {d h f : List Int} (k : Dvq d f) : Comb d h f := by
  obtain ⟨c, q, hc, e⟩ := k
  exact ⟨c, q, [], hc, fun x => by rw [e, ev_nil]; omega⟩
theorem IsGcd.assoc {f g h d e D : List Int} (k1 : IsGcd f g d) (k2 : IsGcd g h e) (k3 : IsGcd f e D) : IsGcd d h D := by
  refine ⟨k3.trim, k3.lead, ?_, Dvq.comb k3.l (k3.r.trans k2.l) k1.c, k3.r.trans k2.r, ?_⟩
  · rw [k3.cont, k2.cont, k1.cont, Nat.gcd_assoc]
  · exact Comb.trans (Comb.of_l k1.l) (Comb.trans (Comb.of_l k1.r) (Comb.right d h) k2.c) k3.c
/-- the value of unidiv.Gcd -/
def IsG (f g D : List Int) : Prop := (plen f = 0 ∧ plen g = 0 ∧ D = []) ∨ (¬ (plen f = 0 ∧ plen g = 0) ∧ IsGcd f g D)
theorem IsGcd.ne {f g D : List Int} (h : IsGcd f g D) : plen D ≠ 0 := fun e => by have := plead_zero.2 e; have := h.lead; omega
theorem IsG.unique {f g D D' : List Int} (h : IsG f g D) (h' : IsG f g D') : D = D' := by
  rcases h with ⟨h1, h2, h3⟩ | ⟨h1, h2⟩
  · rcases h' with ⟨_, _, h4⟩ | ⟨h4, _⟩
    · rw [h3, h4]
    · exact absurd ⟨h1, h2⟩ h4
  · rcases h' with ⟨h3, h4, _⟩ | ⟨_, h4⟩
    · exact absurd ⟨h3, h4⟩ h1
    · exact h2.unique h4
theorem IsG.symm {f g D : List Int} (h : IsG f g D) : IsG g f D := by
  rcases h with ⟨h1, h2, h3⟩ | ⟨h1, h2⟩
  · exact .inl ⟨h2, h1, h3⟩
  · exact .inr ⟨fun e => h1 ⟨e.2, e.1⟩, h2.symm⟩
theorem polymul_zero_l {f h : List Int} (hf : plen f = 0) : plen (polymul f h) = 0 := by
  have : ∀ k, (polymul f h).getD k 0 = 0 := fun k => by
    have h1 := ev_inj (p := polymul f h) (q := []) (fun x => by rw [ev_mul, ev_congr (p := f) (q := []) (fun k => by rw [getD_ge_plen f k (by omega)]; simp) x, ev_nil]; simp) k
    rw [h1]; simp
  have := plen_le_of (p := polymul f h) (n := 0) (fun k _ => this k)
  omega
theorem polymul_zero_r {f h : List Int} (hh : plen h = 0) : plen (polymul f h) = 0 := by
  have : ∀ k, (polymul f h).getD k 0 = 0 := fun k => by
    have h1 := ev_inj (p := polymul f h) (q := []) (fun x => by rw [ev_mul, ev_congr (p := h) (q := []) (fun k => by rw [getD_ge_plen h k (by omega)]; simp) x, ev_nil]; simp) k
    rw [h1]; simp
  have := plen_le_of (p := polymul f h) (n := 0) (fun k _ => this k)
  omega
theorem IsG.mul {f g D h : List Int} (k : IsG f g D) : IsG (polymul f h) (polymul g h) (ppos (polymul D h)) := by
  by_cases h0 : plen h = 0
  · refine .inl ⟨polymul_zero_r h0, polymul_zero_r h0, ?_⟩
    have := ppos_plen (polymul D h)
    rw [polymul_zero_r h0] at this
    rw [← ppos_trim, ptrim, this]; rfl
  · rcases k with ⟨h1, h2, h3⟩ | ⟨h1, h2⟩
    · refine .inl ⟨polymul_zero_l h1, polymul_zero_l h2, ?_⟩
      have := ppos_plen (polymul D h)
      rw [polymul_zero_l (by rw [h3]; rfl)] at this
      rw [← ppos_trim, ptrim, this]; rfl
    · refine .inr ⟨fun e => h1 ?_, h2.mul h0⟩
      have key : ∀ p : List Int, plen (polymul p h) = 0 → plen p = 0 := fun p hp => Classical.byContradiction fun hn => by
        have := (plen_mul (f := p) (g := h) (by omega) (by omega)).1
        omega
      exact ⟨key f e.1, key g e.2⟩
theorem IsG.assoc {f g h d e D D' : List Int} (k1 : IsG f g d) (k2 : IsG g h e) (k3 : IsG f e D) (k4 : IsG d h D') : D = D' := by
  have hd : plen d = 0 ↔ (plen f = 0 ∧ plen g = 0) := by
    rcases k1 with ⟨h1, h2, h3⟩ | ⟨h1, h2⟩
    · rw [h3]; exact ⟨fun _ => ⟨h1, h2⟩, fun _ => rfl⟩
    · exact ⟨fun e => absurd e h2.ne, fun e => absurd e h1⟩
  have he : plen e = 0 ↔ (plen g = 0 ∧ plen h = 0) := by
    rcases k2 with ⟨h1, h2, h3⟩ | ⟨h1, h2⟩
    · rw [h3]; exact ⟨fun _ => ⟨h1, h2⟩, fun _ => rfl⟩
    · exact ⟨fun e => absurd e h2.ne, fun e => absurd e h1⟩
  rcases k3 with ⟨h1, h2, h3⟩ | ⟨h1, h2⟩
  · have h4 := he.1 h2
    rcases k4 with ⟨_, _, h6⟩ | ⟨h5, _⟩
    · rw [h3, h6]
    · exact absurd ⟨hd.2 ⟨h1, h4.1⟩, h4.2⟩ h5
  · rcases k4 with ⟨h3, h4, _⟩ | ⟨_, h4⟩
    · have h5 := hd.1 h3
      exact absurd ⟨h5.1, he.2 ⟨h5.2, h4⟩⟩ h1
    · refine IsGcd.unique (f := d) (g := h) ?_ h4
      -- D divides and is a combination
      rcases k1 with ⟨a1, a2, a3⟩ | ⟨_, a2⟩
      · rcases k2 with ⟨b1, b2, b3⟩ | ⟨_, b2⟩
        · exact absurd ⟨a1, by rw [b3]; rfl⟩ h1
        · subst a3
          have hh : plen h ≠ 0 := fun e => h1 ⟨a1, he.2 ⟨a2, e⟩⟩
          have z1 := isgcd_zero (f := g) (g := h) a2 hh
          have e1 : e = ppos h := b2.unique z1
          have z2 := isgcd_zero (f := f) (g := e) a1 (by rw [e1, ppos_plen]; exact hh)
          have e2 : D = ppos e := h2.unique z2
          have z3 := isgcd_zero (f := []) (g := h) rfl hh
          have e3 : ppos e = ppos h := by
            rw [e1]
            have h5 := ppos_lead hh
            unfold ppos at *
            rw [if_neg (by omega)]
            exact ppos_trim h
          rw [e2, e3]; exact z3
      · rcases k2 with ⟨b1, b2, b3⟩ | ⟨_, b2⟩
        · subst b3
          have hf : plen f ≠ 0 := fun e => h1 ⟨e, rfl⟩
          have z1 := (isgcd_zero (f := g) (g := f) b1 hf).symm
          have e1 : d = ppos f := a2.unique z1
          have z2 := (isgcd_zero (f := []) (g := f) rfl hf).symm
          have e2 : D = ppos f := h2.unique z2
          have z3 := (isgcd_zero (f := h) (g := d) b2 (by rw [e1, ppos_plen]; exact hf)).symm
          have e3 : ppos d = ppos f := by
            rw [e1]
            have h5 := ppos_lead hf
            unfold ppos at *
            rw [if_neg (by omega)]
            exact ppos_trim f
          rw [e2, ← e3]; exact z3
        · exact a2.assoc b2 h2
end Go.Proofs.Ytjoenabcjioncaa
