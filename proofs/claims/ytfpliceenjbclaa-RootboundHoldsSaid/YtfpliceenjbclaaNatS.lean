/- The walks of package natural: product and Mul where one factor has fewer than 48 digits. -/
import Derived.Test.YtfpliceenjbclaaNatE
namespace Go.Proofs.Ytfpliceenjbclaa
open Go.RowKit

theorem DigAt.drop' {w : World} {A : Option Addr} {len cap : Nat} {ds : List Nat} (h : DigAt w A len cap ds) {k : Nat} (hk : k < len) : DigAt w (A.map (·.add k)) (len - k) (cap - k) (ds.drop k) := by
  have hc := h.cap
  refine ⟨by rw [List.length_drop, h.length], by omega, h.wd.drop k, ?_⟩
  obtain ⟨b, off, rfl, hlt, hcell⟩ := h.at_ (by omega)
  refine .inr ⟨b, off + k, by simp [Addr.add_lit], hlt, fun j hj => ?_⟩
  rw [Nat.add_assoc, hcell (k + j) (by omega)]
  simp [List.getD_eq_getElem?_getD, List.getElem?_drop]
theorem DigAt.drew {w : World} {A : Option Addr} {len cap : Nat} {ds : List Nat} (h : DigAt w A len cap ds) : DigAt w.drew A len cap ds := h.below (Below.refl _ w).drew
theorem Off.of_lt {g b off : Nat} (h : g < b) : Off g (some ⟨b, off, none⟩) := by
  intro b' off' e
  injection e with e
  injection e with e1 _ _
  omega

/-- What product returns. -/
def ProdPost (w : World) (n v : Nat) (e : Ending) (w' : World) : Prop :=
  ∃ g zs, e = .returned (.slice (some ⟨g, 0, none⟩) n n) ∧ DRow w' g zs ∧ zs.length = n ∧ Wd zs ∧ val zs = v ∧ w.heap.size ≤ g ∧ Below w.heap.size w w'

/-- the factors to which the contract of Mul applies -/
def MulOK (a b : Nat) : Prop := dlen a < 48 ∨ dlen b < 48
theorem MulOK.symm {a b : Nat} (h : MulOK a b) : MulOK b a := h.elim .inr .inl

set_option maxRecDepth 100000 in
set_option maxHeartbeats 1000000 in
theorem product_small (A B : Option Addr) (la ca lb cb : Nat) (da db : List Nat) (w : World) (ha : DigAt w A la ca da) (hb : DigAt w B lb cb db) (hm : la + lb ≤ 2199023255552) (hk : la < 48 ∨ lb < 48) :
    Calls Try.prog 151 #[.slice A la ca, .slice B lb cb] w (ProdPost w (la + lb) (val da * val db)) := by
  by_cases hlt : la < lb
  · have h48 : la < 48 := by omega
    go_enter Try.func151, Try.ntmps151
    go_wp2_with (go_at_call 172; refine (schoolbook_any _ _ _ _ _ _ _ _ _ ha hb (by omega)).mono ?_; rintro e w1 ⟨g, zs, rfl, h1, h2, h3, h4, h5, h6⟩)
    go_ret
    exact ⟨g, zs, rfl, h1, h2, h3, h4, h5, h6⟩
  · have h48 : lb < 48 := by omega
    go_enter Try.func151, Try.ntmps151
    go_wp2_with (go_at_call 172; refine (schoolbook_any _ _ _ _ _ _ _ _ _ hb ha (by omega)).mono ?_; rintro e w1 ⟨g, zs, rfl, h1, h2, h3, h4, h5, h6⟩)
    go_ret
    rw [Nat.add_comm la lb, Nat.mul_comm (val da)]
    exact ⟨g, zs, rfl, h1, h2, h3, h4, h5, h6⟩

set_option maxHeartbeats 400000 in
theorem mul_any (A B : Option Addr) (la ca lb cb a b : Nat) (w : World) (ha : NatAt w A la ca a) (hb : NatAt w B lb cb b) (hsa : Sm a) (hsb : Sm b) (hk : MulOK a b) :
    Calls Try.prog 120 #[.slice A la ca, .slice B lb cb] w fun e w' => ∃ A' len' cap', e = .returned (.slice A' len' cap') ∧ NatN w' A' len' cap' (a * b) ∧ Below w.heap.size w w' := by
  go_enter Try.func120, Try.ntmps120
  go_wp2_with fail
  refine (trim_any _ _ _ _ _ ha hsa).mono ?_
  rintro e w1 ⟨la', rfl, ha', rfl⟩
  go_wp2_with fail
  refine (trim_any _ _ _ _ _ hb hsb).mono ?_
  rintro e w1 ⟨lb', rfl, hb', rfl⟩
  have hla := Lib.hid ha'.len
  have hlb := Lib.hid hb'.len
  have hm : la' + lb' ≤ 2199023255552 := by have := hla.out; have := hlb.out; unfold Sm at hsa hsb; omega
  clear ha hb
  go_wp2_with fail
  refine (product_small _ _ _ _ _ _ _ _ _ ha'.digits hb'.digits hm (by unfold MulOK at hk; have := hla.out; have := hlb.out; omega)).mono ?_
  rintro e w1 ⟨g, zs, rfl, h1, h2, h3, h4, h5, h6⟩
  have hd := h1.dig h3 (cap := la' + lb') (by omega)
  rw [h2] at hd
  rw [val_digs, val_digs] at h4
  have H6 := Lib.hid h6
  clear h1 h2 h3 h5 h6 ha' hb'
  go_wp2_with fail
  refine (trim_dig _ _ _ _ _ _ hd h4 (by omega)).mono ?_
  rintro e w2 ⟨l2, rfl, hr, rfl⟩
  have Hr := Lib.hid hr
  clear hr hd h4
  go_wp2
  go_ret
  exact ⟨_, _, _, rfl, Hr.out, H6.out⟩

end Go.Proofs.Ytfpliceenjbclaa
