/- The sequence of subresultants: each element is the remainder of the two before it up to factors, the last one is the greatest common divisor up to factors. Plain: no program. -/
import Derived.Test.YtgblfpkfapmlnaaGreatDvc
import Derived.Test.YtgblfpkfapmlnaaGreatRga
namespace Go.Proofs.YtgblfpkfapmlnaaGreat

/-- three neighbours -/
structure Tri3 (a b c : List Int) : Prop where
  lt : plen c < plen b
  eq : pprim (psr a b) = pprim c
  fa : FitP a
  fb : FitP b
  fc : FitP c
  b1 : 1 ≤ plen b
  la : a.length ≤ 7
  lb : b.length ≤ 7
  lc : c.length ≤ 7
  sr : SmP (psr a b)
theorem few7_sq {f g : List Int} (hf : Few7 f) (hg : Few7 g) (g0 : plen g ≠ 0) (hfg : plen g ≤ plen f) :
    rOK 20 ⟨ptrim f, ptrim g, -1, (-1) ^ (plen f - plen g + 1)⟩ ∧
    (∀ i, i + 2 < (rseq 20 f g).length → Tri3 ((rseq 20 f g).getD i []) ((rseq 20 f g).getD (i + 1) []) ((rseq 20 f g).getD (i + 2) [])) ∧
    (∀ D, IsG f g D → pprim ((rseq 20 f g).getD ((rseq 20 f g).length - 1) []) = pprim D ∧ plen ((rseq 20 f g).getD ((rseq 20 f g).length - 1) []) = plen D) ∧
    ∀ i, i < (rseq 20 f g).length → FitP ((rseq 20 f g).getD i []) ∧ ((rseq 20 f g).getD i []).length ≤ 7 := by
  have f0 : plen f ≠ 0 := by omega
  have h1 := hf.1
  have h2 := hg.1
  obtain ⟨m, hm⟩ : ∃ m, plen f = m + 1 := ⟨plen f - 1, by omega⟩
  obtain ⟨n, hn⟩ : ∃ n, plen g = n + 1 := ⟨plen g - 1, by omega⟩
  obtain ⟨G, hG⟩ : ∃ G, G = 18446744073709551616 * 32 := ⟨_, rfl⟩
  have hG1 : 1 ≤ G := by omega
  have ok : GOK G m n 0 18 := gok18 (by omega) (by omega) hG1 (by rw [hG, BB_eq]; decide +kernel)
  have hlow : ∀ p, Comb (ptrim f) (ptrim g) p → 1 ≤ plen p → 0 + 1 ≤ plen p := fun p _ h => by omega
  have a0 : ∀ k, ((ptrim f).getD k 0).natAbs ≤ G := fun k => by rw [ptrim_getD]; have := hf.2 k; omega
  have b0 : ∀ k, ((ptrim g).getD k 0).natAbs ≤ G := fun k => by rw [ptrim_getD]; have := hg.2 k; omega
  have am : ∀ k, ((ptrim f).getD k 0).natAbs * (m + n) ≤ G := fun k => by rw [ptrim_getD, hG]; exact Nat.mul_le_mul (hf.2 k) (by omega)
  have bm : ∀ k, ((ptrim g).getD k 0).natAbs * (m + n) ≤ G := fun k => by rw [ptrim_getD, hG]; exact Nat.mul_le_mul (hg.2 k) (by omega)
  have hs := sinv_start (f := ptrim f) (g := ptrim g) (m := m) (n := n) (G := G) (e := 0) (Nat.zero_le _) (by rw [ptrim_length]; exact hm) (by rw [ptrim_length]; exact hn) (by rw [plen_ptrim, ptrim_length]) (by rw [plen_ptrim, ptrim_length]) (by omega) hG1 a0 b0
  rw [ptrim_length, ptrim_length] at hs
  have hfit : ∀ {p : List Int}, (∀ k, (p.getD k 0).natAbs ≤ G ^ (m + n + 2)) → FitP p := fun {p} h k => by
    refine Nat.lt_of_le_of_lt (Nat.le_trans (h k) (Nat.pow_le_pow_right hG1 (show m + n + 2 ≤ 14 by omega))) ?_
    rw [hG, BB_eq]; decide +kernel
  obtain ⟨s1, s2, s3⟩ := SInv.spec ok hlow am bm 20 _ _ hs (by dsimp only; rw [ptrim_length]; omega)
  have els := SInv.els ok hlow am bm 20 _ _ hs
  have hall : ∀ p ∈ rseq 20 f g, FitP p ∧ p.length ≤ 7 ∧ Comb (ptrim f) (ptrim g) p ∧ 1 ≤ plen p := fun p hp => by
    unfold rseq at hp
    rcases List.mem_cons.1 hp with rfl | hp
    · exact ⟨fun k => by rw [ptrim_getD]; exact hf.fit k, by rw [ptrim_length]; omega, Comb.left _ _, by rw [plen_ptrim]; omega⟩
    · rcases List.mem_cons.1 hp with rfl | hp
      · exact ⟨fun k => by rw [ptrim_getD]; exact hg.fit k, by rw [ptrim_length]; omega, Comb.right _ _, by rw [plen_ptrim]; omega⟩
      · obtain ⟨e1, e2, e3, e4⟩ := els p hp
        exact ⟨hfit e1, by omega, s1 p hp, by omega⟩
  have hget : ∀ i, i < (rseq 20 f g).length → (rseq 20 f g).getD i [] ∈ rseq 20 f g := fun i hi => by
    rw [List.getD_eq_getElem?_getD, List.getElem?_eq_getElem hi]; exact List.getElem_mem _
  refine ⟨SInv.rok ok hlow am bm 20 _ _ hs (by dsimp only; rw [ptrim_length]; omega), ?_, fun D hD => ?_, fun i hi => ⟨(hall _ (hget i hi)).1, (hall _ (hget i hi)).2.1⟩⟩
  · -- three neighbours
    have key : ∀ (k : Nat) (t : RS) (C : Int), SInv (ptrim f) (ptrim g) m n G 0 t C → t.b.length ≤ k → ∀ i, i + 2 < (t.a :: t.b :: rsq k t).length → plen ((t.a :: t.b :: rsq k t).getD (i + 2) []) < plen ((t.a :: t.b :: rsq k t).getD (i + 1) []) ∧ pprim (psr ((t.a :: t.b :: rsq k t).getD i []) ((t.a :: t.b :: rsq k t).getD (i + 1) [])) = pprim ((t.a :: t.b :: rsq k t).getD (i + 2) []) ∧ SmP (psr ((t.a :: t.b :: rsq k t).getD i []) ((t.a :: t.b :: rsq k t).getD (i + 1) [])) := by
      intro k
      induction k with
      | zero => intro t C h hk; have := h.b0; omega
      | succ k ih =>
        intro t C h hk i hi
        by_cases hr : psr t.a t.b = []
        · rw [rsq, if_pos hr] at hi; simp only [List.length_cons, List.length_nil] at hi; omega
        · obtain ⟨hgo, h2, h3⟩ := h.step ok hlow am bm hr
          have e : rsq (k + 1) t = t.rest :: rsq k t.next := by rw [rsq, if_neg hr]
          rw [e] at hi ⊢
          cases i with
          | zero =>
            show plen t.rest < plen t.b ∧ pprim (psr t.a t.b) = pprim t.rest ∧ SmP (psr t.a t.b)
            have h4 := h2.tb
            have h5 : plen t.rest = t.rest.length := h4
            exact ⟨by rw [h5, h.tb]; exact h3, pprim_scale (c := 1) (d := t.dv) (by decide) h.dv0 (fun k => by rw [Int.one_mul]; exact (h.rest hr k).2), hgo.r⟩
          | succ i =>
            have h4 := ih t.next _ h2 (by show t.rest.length ≤ k; omega) i (by simpa using hi)
            exact h4
    intro i hi
    obtain ⟨k1, k2, k3⟩ := key 20 _ _ hs (by dsimp only; rw [ptrim_length]; omega) i hi
    have ha := hall _ (hget i (by omega))
    have hb := hall _ (hget (i + 1) (by omega))
    have hc := hall _ (hget (i + 2) hi)
    exact ⟨k1, k2, ha.1, hb.1, hc.1, hb.2.2.2, ha.2.1, hb.2.1, hc.2.1, k3⟩
  · -- the last element
    have hl : (rseq 20 f g).getD ((rseq 20 f g).length - 1) [] = lst (ptrim g) (rsq 20 ⟨ptrim f, ptrim g, -1, (-1) ^ (plen f - plen g + 1)⟩) := by
      have gen : ∀ (l : List (List Int)) (b : List Int), (b :: l).getD ((b :: l).length - 1) [] = lst b l := by
        intro l
        induction l with
        | nil => intro b; rfl
        | cons x l ih =>
          intro b
          have := ih x
          show (b :: x :: l).getD (l.length + 1) [] = lst x l
          rw [← this]; rfl
      unfold rseq
      rw [← gen]; rfl
    rw [hl]
    have hm := lst_mem (rsq 20 ⟨ptrim f, ptrim g, -1, (-1) ^ (plen f - plen g + 1)⟩) (ptrim g)
    obtain ⟨M, hM⟩ : ∃ M, M = lst (ptrim g) (rsq 20 ⟨ptrim f, ptrim g, -1, (-1) ^ (plen f - plen g + 1)⟩) := ⟨_, rfl⟩
    have d1 : Dvq M (ptrim f) := by rw [hM]; exact s2
    have d2 : Dvq M (ptrim g) := by rw [hM]; exact s3
    rw [← hM] at hm ⊢
    obtain ⟨_, _, mc, m1⟩ := hall M (by unfold rseq; exact List.mem_cons_of_mem _ hm)
    rcases hD.trims with ⟨h3, _⟩ | ⟨_, hD⟩
    · rw [plen_ptrim] at h3; exact absurd h3 f0
    have e1 : Dvq D M := Dvq.comb hD.l hD.r mc
    have e2 : Dvq M D := Dvq.comb d1 d2 hD.c
    have p1 := dvq_plen e1 (by omega)
    have p2 := dvq_plen e2 hD.ne
    exact ⟨pprim_assoc (by omega) hD.ne e2 e1, by omega⟩
end Go.Proofs.YtgblfpkfapmlnaaGreat
