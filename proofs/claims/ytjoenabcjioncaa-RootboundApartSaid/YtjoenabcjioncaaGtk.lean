/- What unidiv.Gcd computes is the greatest common divisor. Plain: no program. -/
import Derived.Test.YtjoenabcjioncaaGtj
namespace Go.Proofs.Ytjoenabcjioncaa

/-- the last element -/
def lst : List Int → List (List Int) → List Int
  | b, [] => b
  | _, s :: r => lst s r
theorem lastOf_or : ∀ (l : List (List Int)) (d : List Int), lastOf d l = lst d l ∨ (lastOf d l ∈ l ∧ plen (lastOf d l) = 1)
  | [], _ => .inl rfl
  | s :: r, d => by
    by_cases h : plen s = 1
    · right
      have e : lastOf d (s :: r) = s := by show (if plen s = 1 then s else lastOf s r) = s; rw [if_pos h]
      rw [e]
      exact ⟨List.mem_cons_self .., h⟩
    · have e : lastOf d (s :: r) = lastOf s r := by show (if plen s = 1 then s else lastOf s r) = _; rw [if_neg h]
      rw [e]
      exact (lastOf_or r s).imp id (fun h => ⟨List.mem_cons_of_mem _ h.1, h.2⟩)
theorem lst_mem : ∀ (l : List (List Int)) (d : List Int), lst d l ∈ d :: l
  | [], _ => List.mem_cons_self ..
  | s :: r, _ => List.mem_cons_of_mem _ (lst_mem r s)
theorem Dvq.const {c : List Int} (h : plen c = 1) (g : List Int) : Dvq c g := by
  have h0 : c.getD 0 0 ≠ 0 := plen_lead c 0 (by omega)
  refine ⟨c.getD 0 0, g, h0, fun x => ?_⟩
  have e : ev c x = c.getD 0 0 := by
    rw [ev_congr (q := [c.getD 0 0]) (fun k => ?_) x, ev_const]
    cases k with
    | zero => simp
    | succ k => rw [getD_ge_plen c (k + 1) (by omega)]; simp
  rw [e, Int.mul_comm]
section
variable {f g : List Int} {m n G e N : Nat}
theorem SInv.spec (ok : GOK G m n e N) (hlow : ∀ p, Comb f g p → 1 ≤ plen p → e + 1 ≤ plen p) (hf : ∀ k, (f.getD k 0).natAbs * (m + n) ≤ G) (hg : ∀ k, (g.getD k 0).natAbs * (m + n) ≤ G) : ∀ (k : Nat) (t : RS) (C : Int), SInv f g m n G e t C → t.b.length ≤ k →
    (∀ p ∈ rsq k t, Comb t.a t.b p) ∧ Dvq (lst t.b (rsq k t)) t.a ∧ Dvq (lst t.b (rsq k t)) t.b
  | 0, t, C, h, hk => by have := h.b0; omega
  | k + 1, t, C, h, hk => by
    have hb : 1 ≤ plen t.b := by rw [h.tb]; exact h.b0
    by_cases hr : psr t.a t.b = []
    · have e : rsq (k + 1) t = [] := by simp [rsq, hr]
      rw [e]
      refine ⟨fun p hp => (by simp at hp), ?_, Dvq.refl _⟩
      refine ⟨plead t.b ^ (plen t.a - (plen t.b - 1)), psq t.a t.b, pow_ne (fun e => by have := plead_zero.1 e; omega) _, fun x => ?_⟩
      rw [ps_ev t.a t.b hb, hr, ev_nil, Int.add_zero]
      rfl
    · obtain ⟨_, h2, h3⟩ := h.step ok hlow hf hg hr
      obtain ⟨c1, c2⟩ := h.evs hr
      obtain ⟨i1, i2, i3⟩ := SInv.spec ok hlow hf hg k t.next _ h2 (by show t.rest.length ≤ k; omega)
      have e : rsq (k + 1) t = t.rest :: rsq k t.next := by rw [rsq, if_neg hr]
      rw [e]
      have e2 : lst t.b (t.rest :: rsq k t.next) = lst t.next.b (rsq k t.next) := rfl
      rw [e2]
      refine ⟨fun p hp => ?_, Dvq.comb i2 i3 c2, i2⟩
      rcases List.mem_cons.1 hp with rfl | hp
      · exact c1
      · exact Comb.trans (Comb.right _ _) c1 (i1 p hp)
end
/-- the last element that unidiv.Gcd keeps -/
def gcl (k : Nat) (a b : List Int) : List Int := lastOf [] (rseq k a b)
theorem gcl_spec {a b : List Int} {m n G e N k : Nat} (he : e ≤ n) (hlow : ∀ p, Comb a b p → 1 ≤ plen p → e + 1 ≤ plen p) (ha : a.length = m + 1) (hb : b.length = n + 1) (ta : plen a = a.length) (tb : plen b = b.length) (hmn : n ≤ m) (ok : GOK G m n e N) (hf0 : ∀ k, (a.getD k 0).natAbs ≤ G) (hg0 : ∀ k, (b.getD k 0).natAbs ≤ G) (hf : ∀ k, (a.getD k 0).natAbs * (m + n) ≤ G) (hg : ∀ k, (b.getD k 0).natAbs * (m + n) ≤ G) (hk : b.length ≤ k) :
    Comb a b (gcl k a b) ∧ 1 ≤ plen (gcl k a b) ∧ Dvq (gcl k a b) a ∧ Dvq (gcl k a b) b := by
  have e1 : ptrim a = a := by unfold ptrim; rw [ta, List.take_length]
  have e2 : ptrim b = b := by unfold ptrim; rw [tb, List.take_length]
  have hs := sinv_start (e := e) he ha hb ta tb hmn ok.pos hf0 hg0
  obtain ⟨s1, s2, s3⟩ := SInv.spec ok hlow hf hg k _ _ hs hk
  have els := SInv.els ok hlow hf hg k _ _ hs
  have hseq : rseq k a b = a :: b :: rsq k ⟨a, b, -1, (-1) ^ (a.length - b.length + 1)⟩ := by unfold rseq; rw [e1, e2, ta, tb]
  have hcomb : ∀ p ∈ rseq k a b, Comb a b p ∧ 1 ≤ plen p := fun p hp => by
    rw [hseq] at hp
    rcases List.mem_cons.1 hp with rfl | hp
    · exact ⟨Comb.left _ _, by omega⟩
    · rcases List.mem_cons.1 hp with rfl | hp
      · exact ⟨Comb.right _ _, by omega⟩
      · obtain ⟨_, _, h3, h4⟩ := els p hp
        exact ⟨s1 p hp, by omega⟩
  have hl : lst [] (rseq k a b) = lst b (rsq k ⟨a, b, -1, (-1) ^ (a.length - b.length + 1)⟩) := by rw [hseq]; rfl
  unfold gcl
  rcases lastOf_or (rseq k a b) [] with h | ⟨h1, h2⟩
  · have hm : lst [] (rseq k a b) ∈ rseq k a b := by
      rw [hl, hseq]
      exact List.mem_cons_of_mem _ (lst_mem _ _)
    rw [h]
    obtain ⟨c1, c2⟩ := hcomb _ hm
    rw [hl] at c1 c2 ⊢
    exact ⟨c1, c2, s2, s3⟩
  · obtain ⟨c1, c2⟩ := hcomb _ h1
    exact ⟨c1, c2, Dvq.const h2 _, Dvq.const h2 _⟩
/-- the value of unidiv.Gcd at polynomials other than 0 -/
def pgcd (k : Nat) (f g : List Int) : List Int := ptrim (psc (pconts 0 [f, g] : Int) (pprim (gcl k (gpair f g).1 (gpair f g).2)))
theorem pgcd_is {f g : List Int} {k m n G e N : Nat} (he : e ≤ n) (hlow : ∀ p, Comb (gpair f g).1 (gpair f g).2 p → 1 ≤ plen p → e + 1 ≤ plen p) (hf : plen f ≠ 0) (hg : plen g ≠ 0) (ha : (gpair f g).1.length = m + 1) (hb : (gpair f g).2.length = n + 1) (hmn : n ≤ m) (ok : GOK G m n e N) (hf0 : ∀ k, ((gpair f g).1.getD k 0).natAbs ≤ G) (hg0 : ∀ k, ((gpair f g).2.getD k 0).natAbs ≤ G) (hfa : ∀ k, ((gpair f g).1.getD k 0).natAbs * (m + n) ≤ G) (hgb : ∀ k, ((gpair f g).2.getD k 0).natAbs * (m + n) ≤ G) (hk : (gpair f g).2.length ≤ k) : IsGcd f g (pgcd k f g) := by
  have hcases : (gpair f g = (pprim g, pprim f)) ∨ (gpair f g = (pprim f, pprim g)) := by unfold gpair; split <;> simp
  have hpl : ∀ p : List Int, plen (pprim p) = (pprim p).length := fun p => by
    have := congrArg List.length (gp_trim p)
    rw [ptrim_length] at this
    exact this
  have ta : plen (gpair f g).1 = (gpair f g).1.length := by rcases hcases with e | e <;> rw [e] <;> exact hpl _
  have tb : plen (gpair f g).2 = (gpair f g).2.length := by rcases hcases with e | e <;> rw [e] <;> exact hpl _
  obtain ⟨c, c1, d1, d2⟩ := gcl_spec he hlow ha hb ta tb hmn ok hf0 hg0 hfa hgb hk
  obtain ⟨L, hL⟩ : ∃ L, L = gcl k (gpair f g).1 (gpair f g).2 := ⟨_, rfl⟩
  have hP : pgcd k f g = ptrim (psc (pconts 0 [f, g] : Int) (pprim L)) := by unfold pgcd; rw [hL]
  rw [← hL] at c c1 d1 d2
  have hL0 : plen L ≠ 0 := by omega
  have hct : pconts 0 [f, g] = Nat.gcd (pcont f) (pcont g) := by
    show Nat.gcd (Nat.gcd 0 (pcont f)) (pcont g) = _
    rw [Nat.gcd_zero_left]
  have hc0 : Nat.gcd (pcont f) (pcont g) ≠ 0 := fun e => by have := Nat.eq_zero_of_gcd_eq_zero_left e; exact pcont_ne hf this
  obtain ⟨K, hK⟩ : ∃ K : Int, K = ((Nat.gcd (pcont f) (pcont g) : Nat) : Int) := ⟨_, rfl⟩
  have hK0 : 0 < K := by omega
  rw [hct, ← hK] at hP
  obtain ⟨D, hD⟩ : ∃ D, D = pgcd k f g := ⟨_, rfl⟩
  rw [← hD] at hP ⊢
  have hDg : ∀ k, D.getD k 0 = K * (pprim L).getD k 0 := fun k => by rw [hP, ptrim_getD, psc_get]
  have eD : ∀ x, ev D x = K * ev (pprim L) x := fun x => by rw [hP, ev_trim, ev_psc]
  have DL : Dvq D L := Dvq.trans (dvq_scale (p := D) (q := pprim L) (e := 1) (e' := K) (by omega) (fun k => by rw [hDg, Int.one_mul])) (dvq_prim_l hL0)
  have hdf : Dvq L f ∧ Dvq L g := by
    rcases hcases with e | e <;> rw [e] at d1 d2
    · exact ⟨d2.trans (dvq_prim_l hf), d1.trans (dvq_prim_l hg)⟩
    · exact ⟨d1.trans (dvq_prim_l hf), d2.trans (dvq_prim_l hg)⟩
  have cf : Comb f g (pprim f) := (Comb.left f g).of_dvq ⟨sg (plead f) * (pcont f : Int), 1, gp_ne hf, fun x => by rw [Int.one_mul, ← ev_psc]; exact ev_congr (fun k => by rw [psc_get, ← gp_get hf]) x⟩
  have cg : Comb f g (pprim g) := (Comb.right f g).of_dvq ⟨sg (plead g) * (pcont g : Int), 1, gp_ne hg, fun x => by rw [Int.one_mul, ← ev_psc]; exact ev_congr (fun k => by rw [psc_get, ← gp_get hg]) x⟩
  have cL : Comb f g L := by
    rcases hcases with e | e <;> rw [e] at c
    · exact cg.trans cf c
    · exact cf.trans cg c
  refine ⟨by rw [hP, ptrim_ptrim], ?_, ?_, DL.trans hdf.1, DL.trans hdf.2, ?_⟩
  · have h1 : plen D = plen (pprim L) := by
      have a1 : plen D ≤ plen (pprim L) := plen_le_of fun k hk => by rw [hDg, getD_ge_plen _ k hk, Int.mul_zero]
      have a2 : plen (pprim L) ≤ plen D := plen_le_of fun k hk => by
        have := getD_ge_plen D k hk
        rw [hDg] at this
        exact (Int.mul_eq_zero.1 this).resolve_left (by omega)
      omega
    unfold plead
    rw [h1, hDg]
    exact Int.mul_pos hK0 (gp_lead hL0)
  · have h1 : pcont D = pcont (psc K (pprim L)) := pcont_ext fun k => by rw [hDg, psc_get]
    rw [h1, pcont_psc, gp_cont hL0, Nat.mul_one, hK, Int.natAbs_natCast]
  · refine cL.of_dvq ⟨sg (plead L) * (pcont L : Int), K, gp_ne hL0, fun x => ?_⟩
    rw [eD, ev_congr (fun k => (gp_get hL0 k).trans (psc_get _ _ k).symm) x (p := L), ev_psc]
    ac_rfl
end Go.Proofs.Ytjoenabcjioncaa
