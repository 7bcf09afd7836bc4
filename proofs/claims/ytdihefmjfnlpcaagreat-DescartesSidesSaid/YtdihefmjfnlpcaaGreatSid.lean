/- Sign changes of f(x) and of f(-x) together are at most the degree, if the constant coefficient is not 0. Plain: no program. -/
import Derived.Test.YtdihefmjfnlpcaaGreatRbH
namespace Go.Proofs.YtdihefmjfnlpcaaGreat
open Go.RowKit

/-- the coefficients of f(-x) -/
def pflip (p : List Int) : List Int := (List.range p.length).map fun k => if k % 2 = 0 then p.getD k 0 else -p.getD k 0
theorem pflip_length (p : List Int) : (pflip p).length = p.length := by simp [pflip]
theorem pflip_get (p : List Int) (k : Nat) : (pflip p).getD k 0 = if k % 2 = 0 then p.getD k 0 else -p.getD k 0 := by
  rcases Nat.lt_or_ge k p.length with h | h
  · rw [List.getD_eq_getElem?_getD, pflip, List.getElem?_map, List.getElem?_range h]; rfl
  · have e1 : (pflip p).getD k 0 = 0 := by rw [List.getD_eq_getElem?_getD, List.getElem?_eq_none (by rw [pflip_length]; exact h)]; rfl
    have e2 : p.getD k 0 = 0 := by rw [List.getD_eq_getElem?_getD, List.getElem?_eq_none h]; rfl
    rw [e1, e2]; split <;> rfl

theorem sg_neg' (z : Int) : sg (-z) = -sg z := by
  rcases sg_cases z with ⟨h, e⟩ | ⟨h, e⟩ | ⟨h, e⟩ <;> rcases sg_cases (-z) with ⟨h', e'⟩ | ⟨h', e'⟩ | ⟨h', e'⟩ <;> omega

/-- where the last coefficient other than 0 lies, and how its two signs agree -/
structure TwoS (p : List Int) (k i : Nat) : Prop where
  le : i < k
  ne : (vst p k).2 = 1 ∨ (vst p k).2 = -1
  sg : (vst (pflip p) k).2 = if i % 2 = 0 then (vst p k).2 else -(vst p k).2
  sum : (vst p k).1 + (vst (pflip p) k).1 ≤ i

theorem two_step {p : List Int} {k i : Nat} (h : TwoS p k i) : ∃ j, TwoS p (k + 1) j := by
  obtain ⟨hle, hne, hsg, hsum⟩ := h
  have hf := pflip_get p k
  by_cases h0 : sg (p.getD k 0) = 0
  · have h0' : sg ((pflip p).getD k 0) = 0 := by
      rw [hf]; split
      · exact h0
      · rw [sg_neg', h0]; rfl
    have e1 : vst p (k + 1) = vst p k := by simp only [vst]; rw [if_pos h0]
    have e2 : vst (pflip p) (k + 1) = vst (pflip p) k := by simp only [vst]; rw [if_pos h0']
    exact ⟨i, by omega, by rw [e1]; exact hne, by rw [e1, e2]; exact hsg, by rw [e1, e2]; exact hsum⟩
  · have hs : sg (p.getD k 0) = 1 ∨ sg (p.getD k 0) = -1 := by rcases sg_cases (p.getD k 0) with ⟨_, e⟩ | ⟨_, e⟩ | ⟨_, e⟩ <;> omega
    have hs2 : sg ((pflip p).getD k 0) = if k % 2 = 0 then sg (p.getD k 0) else -sg (p.getD k 0) := by
      rw [hf]; split
      · rfl
      · exact sg_neg' _
    have h0' : ¬ sg ((pflip p).getD k 0) = 0 := by rw [hs2]; split <;> omega
    have e1 : vst p (k + 1) = (if sg (p.getD k 0) = -(vst p k).2 then (vst p k).1 + 1 else (vst p k).1, sg (p.getD k 0)) := by simp only [vst]; rw [if_neg h0]
    have e2 : vst (pflip p) (k + 1) = (if sg ((pflip p).getD k 0) = -(vst (pflip p) k).2 then (vst (pflip p) k).1 + 1 else (vst (pflip p) k).1, sg ((pflip p).getD k 0)) := by simp only [vst]; rw [if_neg h0']
    refine ⟨k, by omega, by rw [e1]; exact hs, by rw [e1, e2]; exact hs2, ?_⟩
    rw [e1, e2]
    show (if sg (p.getD k 0) = -(vst p k).2 then (vst p k).1 + 1 else (vst p k).1) + (if sg ((pflip p).getD k 0) = -(vst (pflip p) k).2 then (vst (pflip p) k).1 + 1 else (vst (pflip p) k).1) ≤ k
    rw [hs2, hsg]
    generalize sg (p.getD k 0) = s at *
    generalize (vst p k).2 = l at *
    generalize (vst p k).1 = a at *
    generalize (vst (pflip p) k).1 = b at *
    rcases Nat.mod_two_eq_zero_or_one k with hk | hk <;> rcases Nat.mod_two_eq_zero_or_one i with hi | hi <;> rw [hk, hi] <;> simp only [if_true, Nat.one_ne_zero, if_false] <;> (split <;> (try split) <;> omega)

theorem two_all {p : List Int} (h0 : p.getD 0 0 ≠ 0) : ∀ k, ∃ i, TwoS p (k + 1) i
  | 0 => by
    have hs : sg (p.getD 0 0) = 1 ∨ sg (p.getD 0 0) = -1 := by rcases sg_cases (p.getD 0 0) with ⟨_, e⟩ | ⟨_, e⟩ | ⟨_, e⟩ <;> omega
    have hf := pflip_get p 0
    rw [if_pos rfl] at hf
    have hz : ¬ sg (p.getD 0 0) = 0 := by omega
    have hz2 : ¬ sg (p.getD 0 0) = -0 := by omega
    have e1 : vst p 1 = (0, sg (p.getD 0 0)) := by
      show (if sg (p.getD 0 0) = 0 then ((0, 0) : Nat × Int) else (if sg (p.getD 0 0) = -0 then 0 + 1 else 0, sg (p.getD 0 0))) = _
      rw [if_neg hz, if_neg hz2]
    have e2 : vst (pflip p) 1 = (0, sg (p.getD 0 0)) := by
      show (if sg ((pflip p).getD 0 0) = 0 then ((0, 0) : Nat × Int) else (if sg ((pflip p).getD 0 0) = -0 then 0 + 1 else 0, sg ((pflip p).getD 0 0))) = _
      rw [hf, if_neg hz, if_neg hz2]
    exact ⟨0, by omega, by rw [e1]; exact hs, by rw [e1, e2]; rfl, by rw [e1, e2]; exact Nat.le_refl _⟩
  | k + 1 => by
    obtain ⟨i, hi⟩ := two_all h0 k
    exact two_step hi

/-- Descartes' bounds on the positive and on the negative roots together. -/
theorem sides_le {p : List Int} (h0 : p.getD 0 0 ≠ 0) (n : Nat) (hn : 1 ≤ n) : (vst p n).1 + (vst (pflip p) n).1 ≤ n - 1 := by
  obtain ⟨k, rfl⟩ : ∃ k, n = k + 1 := ⟨n - 1, by omega⟩
  obtain ⟨i, hi⟩ := two_all h0 k
  have := hi.le
  have := hi.sum
  omega
end Go.Proofs.YtdihefmjfnlpcaaGreat
