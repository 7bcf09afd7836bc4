/- What the law SturmChains compares; the walk of its function signed. -/
import Derived.Test.YtccapbajbniknaaGreatChb
import Derived.Test.YtccapbajbniknaaGreatPart
namespace Go.Proofs.YtccapbajbniknaaGreat
open Go.RowKit

/-! ### Exact division by a constant -/
/-- f divided by its content -/
def psd (f : List Int) : List Int := (ptrim f).map (·.tdiv (pcont f : Int))
theorem plen_one {c : Int} (h : c ≠ 0) : plen [c] = 1 := by simp [plen, h]
theorem tmod_cont (f : List Int) (k : Nat) : (f.getD k 0).tmod (pcont f : Int) = 0 := by
  have h := pcont_get f k
  exact Int.tmod_eq_zero_of_dvd (Int.ofNat_dvd_left.2 h)
theorem psd_get (f : List Int) (k : Nat) : (psd f).getD k 0 = (f.getD k 0).tdiv (pcont f : Int) := by
  have h2 := ptrim_getD f k
  unfold psd
  rw [List.getD_eq_getElem?_getD, List.getElem?_map]
  rw [List.getD_eq_getElem?_getD] at h2
  cases e : (ptrim f)[k]? with
  | none => rw [e] at h2; rw [← h2]; simp
  | some x => rw [e] at h2; rw [← h2]; rfl
theorem pred_psd {f : List Int} (h0 : plen f ≠ 0) : pred f = psd f := by
  refine eq_of_getD' (by rw [pred_len]; unfold psd; rw [List.length_map, ptrim_length]) fun k _ => ?_
  rw [psd_get]
  have hne := plead_ne h0
  unfold pred
  split
  · rename_i h
    have hs : sg (plead f) = -1 := by rcases sg_cases (plead f) with ⟨_, e⟩ | ⟨_, e⟩ | ⟨_, e⟩ <;> omega
    rw [pmn_get, ptrim_getD, pprim_get f h0, hs, Int.neg_mul, Int.one_mul, Int.tdiv_neg, Int.neg_neg]
  · have hs : sg (plead f) = 1 := by rcases sg_cases (plead f) with ⟨_, e⟩ | ⟨_, e⟩ | ⟨_, e⟩ <;> omega
    rw [pprim_get f h0, hs, Int.one_mul]

/-! ### The remainder of the law -/
end Go.Proofs.YtccapbajbniknaaGreat
