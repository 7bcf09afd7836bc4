/- The law SturmTheorem. -/
import Derived.Test.YtccapbajbniknaaGreatSqw
namespace Go.Proofs.YtccapbajbniknaaGreat
open Go.RowKit

structure Pai (W : World) (g : Nat) (x0 x1 : Int) : Prop where
  c0 : W.cell? ⟨g, 0, none⟩ = some (.int .i8 x0)
  c1 : W.cell? ⟨g, 1, none⟩ = some (.int .i8 x1)
theorem Pai.move {W W' : World} {g : Nat} {x0 x1 : Int} (h : Pai W g x0 x1) (hb : Below W.heap.size W W') : Pai W' g x0 x1 := by
  obtain ⟨hc, _⟩ := bcellS hb
  exact ⟨(hc _ (by rw [h.c0]; rfl)).trans h.c0, (hc _ (by rw [h.c1]; rfl)).trans h.c1⟩
theorem Pai.make (W : World) (x0 x1 : Int) (t : TypeId) : Pai (W.alloc (.cells #[.int .i8 x0, .int .i8 x1] t)) W.heap.size x0 x1 := ⟨by go_simp, by go_simp⟩
/-- the first coefficients of a slice of int16s -/
theorem short_bd {w : World} {A : Option Addr} {l c : Nat} {p : List Int} (h : I16At w A l c p) (n : Nat) : plen (ptrim (p.take n)) ≤ n ∧ (ptrim (p.take n)).length ≤ n ∧ ptrim (ptrim (p.take n)) = ptrim (p.take n) ∧ ∀ j, ((ptrim (p.take n)).getD j 0).natAbs ≤ 32768 := by
  have h1 := plen_le (p.take n)
  rw [List.length_take] at h1
  refine ⟨by rw [plen_ptrim]; omega, by rw [ptrim_length]; omega, ptrim_ptrim _, fun j => ?_⟩
  rw [ptrim_getD]
  rcases Nat.lt_or_ge j (p.take n).length with hj | hj
  · have hmem : (p.take n).getD j 0 ∈ p := by
      rw [List.getD_eq_getElem?_getD, List.getElem?_eq_getElem hj]
      exact List.mem_of_mem_take (List.getElem_mem _)
    have := h.range _ hmem
    omega
  · rw [getD_out _ hj]; omega
theorem short_p9 {w : World} {A : Option Addr} {l c : Nat} {p : List Int} (h : I16At w A l c p) {n : Nat} (hn : n ≤ 9) : P9 (ptrim (p.take n)) := by
  obtain ⟨h1, _, _, h2⟩ := short_bd h n
  exact ⟨by omega, fun j => Nat.le_trans (h2 j) (by rw [BB_eq]; decide)⟩

end Go.Proofs.YtccapbajbniknaaGreat
