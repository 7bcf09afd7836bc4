/- The division of the reference, step by step. Plain. -/
import Derived.Test.YtgblfpkfapmlnaaBtl
import Derived.Test.YtgblfpkfapmlnaaIdP
namespace Go.Proofs.Ytgblfpkfapmlnaa
open Go.RowKit

theorem zp_one {w : World} {s : Int} {A : Option Addr} {l c : Nat} {z : Int} (h : ZAt w s A l c z) : ZP (w.alloc (zbox s A l c)) (some ⟨w.heap.size, 0, none⟩) 1 1 [z] := by
  refine ⟨rfl, .inr ⟨w.heap.size, 0, rfl, by simp, fun j hj => ?_⟩, Nat.le_refl _⟩
  have : j = 0 := by omega
  subst this
  exact ⟨s, A, l, c, by go_simp, by go_simp, h.below ((Below.refl _ _).alloc (Nat.le_refl _) _)⟩
theorem bln_of {n k : Nat} (h : n < 2 ^ k) : bln n ≤ k := bln_le h

/-- one round of the division step by step -/
def rstep (g : List Int) (d k : Nat) (qr : List Int × List Int) : List Int × List Int :=
  (zps (zsc qr.1 (g.getD d 0)) (zup (ptrim [qr.2.getD (d + k) 0]) k), zps (zsc qr.2 (g.getD d 0)) (zsc (zup (zsc g (qr.2.getD (d + k) 0)) k) (-1)))
/-- t rounds from the exponent K down -/
def rrun (f g : List Int) (d K : Nat) : Nat → List Int × List Int
  | 0 => ([], f)
  | t + 1 => rstep g d (K - t) (rrun f g d K t)
theorem rstep_q (g : List Int) (d k : Nat) (qr : List Int × List Int) (j : Nat) : (rstep g d k qr).1.getD j 0 = qr.1.getD j 0 * g.getD d 0 + if j = k then qr.2.getD (d + k) 0 else 0 := by
  unfold rstep
  rw [zps_get, zsc_get, zup_get]
  by_cases h : j < k
  · rw [if_pos h, if_neg (by omega)]
  · rw [if_neg h, ptrim_getD]
    by_cases h2 : j = k
    · rw [if_pos h2, h2, Nat.sub_self]; rfl
    · rw [if_neg h2, getD_out [qr.2.getD (d + k) 0] (show [qr.2.getD (d + k) 0].length ≤ j - k by rw [List.length_singleton]; omega)]
theorem rstep_r (g : List Int) (d k : Nat) (qr : List Int × List Int) (j : Nat) : (rstep g d k qr).2.getD j 0 = qr.2.getD j 0 * g.getD d 0 - if k ≤ j then g.getD (j - k) 0 * qr.2.getD (d + k) 0 else 0 := by
  unfold rstep
  rw [zps_get, zsc_get, zsc_get, zup_get]
  by_cases h : j < k
  · rw [if_pos h, if_neg (by omega)]; omega
  · rw [if_neg h, if_pos (by omega), zsc_get]; omega
theorem rstep_trim (g : List Int) (d k : Nat) (qr : List Int × List Int) : ptrim (rstep g d k qr).1 = (rstep g d k qr).1 ∧ ptrim (rstep g d k qr).2 = (rstep g d k qr).2 := ⟨zps_trim _ _, zps_trim _ _⟩
theorem rstep_bd {g : List Int} {d k : Nat} {qr : List Int × List Int} {M X : Nat} (hg : Bd M g) (h1 : 1 ≤ M) (hq : Bd X qr.1) (hr : Bd X qr.2) : Bd (2 * M * X) (rstep g d k qr).1 ∧ Bd (2 * M * X) (rstep g d k qr).2 := by
  have hX : X ≤ M * X := Nat.le_mul_of_pos_left X h1
  have e2 : 2 * M * X = M * X + M * X := by rw [Nat.mul_assoc, Nat.two_mul]
  constructor <;> intro j
  · rw [rstep_q]
    have h2 : (qr.1.getD j 0 * g.getD d 0).natAbs ≤ X * M := by rw [Int.natAbs_mul]; exact Nat.mul_le_mul (hq j) (hg d)
    have h3 : (if j = k then qr.2.getD (d + k) 0 else 0 : Int).natAbs ≤ X := by
      split
      · exact hr _
      · simp
    have h4 := Int.natAbs_add_le (qr.1.getD j 0 * g.getD d 0) (if j = k then qr.2.getD (d + k) 0 else 0)
    rw [Nat.mul_comm X M] at h2
    omega
  · rw [rstep_r]
    have h2 : (qr.2.getD j 0 * g.getD d 0).natAbs ≤ X * M := by rw [Int.natAbs_mul]; exact Nat.mul_le_mul (hr j) (hg d)
    have h3 : (if k ≤ j then g.getD (j - k) 0 * qr.2.getD (d + k) 0 else 0 : Int).natAbs ≤ M * X := by
      split
      · rw [Int.natAbs_mul]; exact Nat.mul_le_mul (hg _) (hr _)
      · simp
    have h4 := Int.natAbs_sub_le (qr.2.getD j 0 * g.getD d 0) (if k ≤ j then g.getD (j - k) 0 * qr.2.getD (d + k) 0 else 0)
    rw [Nat.mul_comm X M] at h2
    omega
theorem rrun_bd {f g : List Int} {d K M : Nat} (hg : Bd M g) (hf : Bd M f) (h1 : 1 ≤ M) : ∀ t, Bd ((2 * M) ^ t * M) (rrun f g d K t).1 ∧ Bd ((2 * M) ^ t * M) (rrun f g d K t).2
  | 0 => ⟨fun j => by simp [rrun], fun j => by rw [Nat.pow_zero, Nat.one_mul]; exact hf j⟩
  | t + 1 => by
    have ih := rrun_bd (d := d) (K := K) hg hf h1 t
    have e : (2 * M) ^ (t + 1) * M = 2 * M * ((2 * M) ^ t * M) := by rw [Nat.pow_succ, Nat.mul_comm ((2 * M) ^ t), Nat.mul_assoc]
    rw [rrun, e]
    exact rstep_bd hg h1 ih.1 ih.2
theorem rrun_len (f g : List Int) (d K : Nat) (hd : g.length = d + 1) (hK : f.length ≤ d + K + 1) : ∀ t, (rrun f g d K t).1.length ≤ K + 1 ∧ (rrun f g d K t).2.length ≤ d + K + 1
  | 0 => by simp only [rrun, List.length_nil]; omega
  | t + 1 => by
    have ih := rrun_len f g d K hd hK t
    rw [rrun]
    unfold rstep
    have h1 := zps_len (zsc (rrun f g d K t).1 (g.getD d 0)) (zup (ptrim [(rrun f g d K t).2.getD (d + (K - t)) 0]) (K - t))
    have h2 := zsc_len (rrun f g d K t).1 (g.getD d 0)
    have h3 := zup_len (ptrim [(rrun f g d K t).2.getD (d + (K - t)) 0]) (K - t)
    have h4 := plen_le [(rrun f g d K t).2.getD (d + (K - t)) 0]
    rw [← ptrim_length] at h4
    have h5 := zps_len (zsc (rrun f g d K t).2 (g.getD d 0)) (zsc (zup (zsc g ((rrun f g d K t).2.getD (d + (K - t)) 0)) (K - t)) (-1))
    have h6 := zsc_len (rrun f g d K t).2 (g.getD d 0)
    have h7 := zsc_len (zup (zsc g ((rrun f g d K t).2.getD (d + (K - t)) 0)) (K - t)) (-1)
    have h8 := zup_len (zsc g ((rrun f g d K t).2.getD (d + (K - t)) 0)) (K - t)
    have h9 := zsc_len g ((rrun f g d K t).2.getD (d + (K - t)) 0)
    simp only [List.length_cons, List.length_nil] at h4
    refine ⟨?_, ?_⟩ <;> dsimp only <;> omega
theorem Bd.zb {M k : Nat} {f : List Int} (h : Bd M f) (hM : bln M ≤ k) : ZB k f := fun j => Nat.le_trans (bln_mono (h j)) hM
theorem bln_pow {M E : Nat} (hM : M ≤ 2 ^ E) : bln M ≤ E + 1 := bln_le (by rw [Nat.pow_succ]; have := two_pow_pos E; omega)
theorem pow_room {M t E : Nat} (hM : M ≤ 2 ^ E) (hE : E ≤ 5000) (ht : t ≤ 21) : bln ((2 * M) ^ t * M) ≤ 400000 ∧ bln (M * ((2 * M) ^ t * M)) ≤ 400000 := by
  have h1 : 2 * M ≤ 2 ^ (E + 1) := by rw [Nat.pow_succ, Nat.mul_comm]; exact Nat.mul_le_mul_right 2 hM
  have h2 : (2 * M) ^ t ≤ 2 ^ ((E + 1) * t) := by rw [Nat.pow_mul]; exact Nat.pow_le_pow_left h1 t
  have h3 : (2 * M) ^ t * M ≤ 2 ^ ((E + 1) * t + E) := by rw [Nat.pow_add]; exact Nat.mul_le_mul h2 hM
  have h4 : M * ((2 * M) ^ t * M) ≤ 2 ^ (E + ((E + 1) * t + E)) := by rw [Nat.pow_add 2 E]; exact Nat.mul_le_mul hM h3
  have h5 : (E + 1) * t ≤ 5001 * 21 := Nat.mul_le_mul (by omega) ht
  have b1 := bln_pow h3
  have b2 := bln_pow h4
  omega
end Go.Proofs.Ytgblfpkfapmlnaa
