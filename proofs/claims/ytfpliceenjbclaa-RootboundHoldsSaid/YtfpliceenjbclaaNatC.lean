/- The walks of package natural, third part: Sub. -/
import Derived.Test.YtfpliceenjbclaaNatB
namespace Go.Proofs.Ytfpliceenjbclaa
open Go.RowKit

/-- What holds of Sub's rows when k digits are done. -/
structure SubInv (w wr : World) (Bc g n : Nat) (dx dy : List Nat) (k c : Nat) (zs : List Nat) : Prop where
  carry : c ≤ 1
  row : DRow wr Bc [c]
  z : DRow wr g zs
  len : zs.length = n
  wd : Wd zs
  sum : val (zs.take k) + val (dy.take k) = val (dx.take k) + BB ^ k * c
  below : Below w.heap.size w wr

theorem dLo_lt (x y c : Nat) : dLo x y c < BB := Nat.mod_lt _ BB_pos
theorem dHi_le (x y c : Nat) : dHi x y c ≤ 1 := by unfold dHi; split <;> omega
theorem d_eq_gen (B x y c : Nat) (hx : x < B) (hy : y < B) (hc : c ≤ 1) : (x + B - y - c) % B + y + c = x + B * (if x < y + c then 1 else 0) := by
  by_cases h : x < y + c
  · rw [if_pos h, Nat.mod_eq_of_lt (by omega)]; omega
  · rw [if_neg h]
    have e : x + B - y - c = (x - y - c) + B := by omega
    rw [e, Nat.add_mod_right, Nat.mod_eq_of_lt (by omega)]; omega
theorem d_eq {x y c : Nat} (hx : x < BB) (hy : y < BB) (hc : c ≤ 1) : dLo x y c + y + c = x + BB * dHi x y c := d_eq_gen BB x y c hx hy hc

theorem sub_arith (P B zk lo hi xk yk c X Y : Nat) (e2 : lo + yk + c = xk + B * hi) (e3 : zk + Y = X + P * c) : zk + P * lo + (Y + P * yk) = X + P * xk + P * B * hi := by
  have e4 : P * lo + P * yk + P * c = P * xk + P * B * hi := by
    rw [Nat.mul_assoc, ← Nat.mul_add, ← Nat.mul_add, ← Nat.mul_add, e2]
  omega

theorem SubInv.step {w wr w1 : World} {Bc g n : Nat} {dx dy : List Nat} {k c : Nat} {zs : List Nat} (h : SubInv w wr Bc g n dx dy k c zs) (hx : Wd dx) (hy : Wd dy)
    (hw : wr.setCell ⟨Bc, 0, none⟩ (.int .u32 (dHi (dx.getD k 0) (dy.getD k 0) c : Nat)) = w1) (hk : k < n) (hg : g ≠ Bc) (hwB : w.heap.size ≤ Bc) (hwg : w.heap.size ≤ g) :
    SubInv w (w1.setCell ⟨g, k, none⟩ (.int .u32 (dLo (dx.getD k 0) (dy.getD k 0) c : Nat))) Bc g n dx dy (k + 1) (dHi (dx.getD k 0) (dy.getD k 0) c) (zs.set k (dLo (dx.getD k 0) (dy.getD k 0) c)) := by
  subst hw
  have h1 : DRow (wr.setCell ⟨Bc, 0, none⟩ (.int .u32 (dHi (dx.getD k 0) (dy.getD k 0) c : Nat))) Bc [dHi (dx.getD k 0) (dy.getD k 0) c] := h.row.set_ 0 _
  have h2 := h.z.far (p := ⟨Bc, 0, none⟩) hg (.int .u32 (dHi (dx.getD k 0) (dy.getD k 0) c : Nat))
  refine ⟨dHi_le _ _ _, h1.far (p := ⟨g, k, none⟩) (fun e => hg e.symm) _, h2.set_ k _, by rw [List.length_set, h.len], h.wd.set (dLo_lt _ _ _), ?_, ((h.below.setCell (p := ⟨Bc, 0, none⟩) hwB _).setCell (p := ⟨g, k, none⟩) hwg _)⟩
  rw [take_set_succ zs (by rw [h.len]; exact hk), val_append, val_take_succ' dx, val_take_succ' dy]
  have e1 : (zs.take k).length = k := by rw [List.length_take, h.len]; omega
  have e2 := d_eq (hx.getD k) (hy.getD k) h.carry
  have e3 := h.sum
  rw [e1, Nat.pow_succ]
  simp only [val, Nat.mul_zero, Nat.add_zero]
  exact sub_arith _ _ _ _ _ _ _ _ _ _ e2 e3

theorem SubInv.fin {w wr : World} {Bc g m : Nat} {dx dy : List Nat} {c : Nat} {zs : List Nat} (h : SubInv w wr Bc g m dx dy m c zs) (hxl : dx.length = m) (hyl : dy.length ≤ m) (hle : val dy ≤ val dx) :
    DigAt wr (some ⟨g, 0, none⟩) m m zs ∧ val zs = val dx - val dy := by
  have e3 := h.sum
  rw [List.take_of_length_le (l := dx) (by omega), List.take_of_length_le (l := dy) hyl, List.take_of_length_le (l := zs) (by rw [h.len]; omega)] at e3
  have e4 := val_lt h.wd
  rw [h.len] at e4
  have e5 := h.carry
  have e6 : c = 0 := by
    rcases Nat.eq_zero_or_pos c with h0 | h0
    · exact h0
    · have : c = 1 := by omega
      rw [this, Nat.mul_one] at e3
      omega
  rw [e6, Nat.mul_zero] at e3
  refine ⟨?_, by omega⟩
  have := h.z.dig h.wd (cap := m) (by rw [h.len]; omega)
  rw [h.len] at this
  exact this

set_option maxHeartbeats 1000000 in
theorem sub_lt_dig (A B : Option Addr) (la ca lb cb a b : Nat) (da db : List Nat) (w : World) (ha : DigAt w A la ca da) (hb : DigAt w B lb cb db) (hva : val da = a) (hvb : val db = b) (hsa : la ≤ 2199023255552) (hsb : lb ≤ 2199023255552) (hlt : a < b) :
    Calls Try.prog 142 #[.slice A la ca, .slice B lb cb] w fun e w' => e = .returned (.tuple #[.slice none 0 0, .bool false]) ∧ Below w.heap.size w w' := by
  have hc := cmpn_lt hlt
  go_enter Try.func142, Try.ntmps142
  go_wp2_with fail
  refine (trim_dig _ _ _ _ _ _ ha hva (by omega)).mono ?_
  rintro e w1 ⟨la', rfl, ha', rfl⟩
  go_wp2_with fail
  refine (trim_dig _ _ _ _ _ _ hb hvb (by omega)).mono ?_
  rintro e w1 ⟨lb', rfl, hb', rfl⟩
  have hma : la' ≤ 2199023255552 := by have h2 := dlen_val_le ha.wd; have h3 := ha.length; rw [hva] at h2; have := ha'.len; omega
  have hmb : lb' ≤ 2199023255552 := by have h2 := dlen_val_le hb.wd; have h3 := hb.length; rw [hvb] at h2; have := hb'.len; omega
  clear ha hb hva hvb hsa hsb
  go_wp2_with fail
  refine (cmp_dig _ _ _ _ _ _ _ _ _ _ _ ha'.digits hb'.digits (val_digs _) (val_digs _) hma hmb).mono ?_
  rintro e w1 ⟨rfl, nq, rfl⟩
  clear ha' hb'
  go_wp2
  go_ret2
  exact ⟨rfl, ⟨rfl, rfl, rfl, Nat.le_refl _, fun _ _ => rfl⟩⟩

set_option maxHeartbeats 1000000 in
theorem sub_ge_fresh (A B : Option Addr) (la ca lb cb a b : Nat) (da db : List Nat) (w : World) (ha : DigAt w A la ca da) (hb : DigAt w B lb cb db) (hva : val da = a) (hvb : val db = b) (hsa : la ≤ 2199023255552) (hsb : lb ≤ 2199023255552) (hle : b ≤ a) :
    Calls Try.prog 142 #[.slice A la ca, .slice B lb cb] w fun e w' => ∃ A' len' cap', e = .returned (.tuple #[.slice A' len' cap', .bool true]) ∧ NatN w' A' len' cap' (a - b) ∧ Below w.heap.size w w' ∧ (∀ b off, A' = some ⟨b, off, none⟩ → w.heap.size ≤ b) := by
  have hc : 0 ≤ cmpn a b := by unfold cmpn; rw [if_neg (by omega)]; split <;> omega
  go_enter Try.func142, Try.ntmps142
  go_wp2_with fail
  refine (trim_dig _ _ _ _ _ _ ha hva (by omega)).mono ?_
  rintro e w1 ⟨la', rfl, ha', rfl⟩
  go_wp2_with fail
  refine (trim_dig _ _ _ _ _ _ hb hvb (by omega)).mono ?_
  rintro e w1 ⟨lb', rfl, hb', rfl⟩
  have hma : la' ≤ 2199023255552 := by have h2 := dlen_val_le ha.wd; have h3 := ha.length; rw [hva] at h2; have := ha'.len; omega
  have hmb : lb' ≤ 2199023255552 := by have h2 := dlen_val_le hb.wd; have h3 := hb.length; rw [hvb] at h2; have := hb'.len; omega
  clear ha hb hva hvb hsa hsb
  go_wp2_with fail
  refine (cmp_dig _ _ _ _ _ _ _ _ _ _ _ ha'.digits hb'.digits (val_digs _) (val_digs _) hma hmb).mono ?_
  rintro e w1 ⟨rfl, nq, rfl⟩
  have hbd : Below w.heap.size w (w.drewN nq) := ⟨rfl, rfl, rfl, Nat.le_refl _, fun _ _ => rfl⟩
  have hx : NatN (w.drewN nq) A la' ca a := ha'.below hbd
  have hy : NatN (w.drewN nq) B lb' cb b := hb'.below hbd
  obtain ⟨w0, hw0⟩ : ∃ w0, w0 = w.drewN nq := ⟨_, rfl⟩
  have hs0 : w0.heap.size = w.heap.size := by rw [hw0]; rfl
  rw [← hw0] at hbd hx hy ⊢
  have Hbd := Lib.hid hbd
  have Hs0 := Lib.hid hs0
  clear hw0 hbd ha' hb' hs0
  have hlx := Lib.hid hx.len
  have hly := Lib.hid hy.len
  have hyx : lb' ≤ la' := by have := hlx.out; have := hly.out; have := dlen_mono hle; omega
  have Hle := Lib.hid hle
  clear hmb hle
  go_wp2_with (at_make; refine wpList_make_dig _ rfl (.tmp 22) (.tmp 22) rfl la' rfl rfl (by omega) ?_)
  clear hc
  intro w1 hz hb1 hsz
  have hinv : SubInv w0 w1 w0.heap.size (w0.heap.size + 1) la' (digs a) (digs b) 0 0 (List.replicate la' 0) := by
    refine ⟨by omega, ?_, by simpa using hz, by simp, Wd.replicate _, by simp [val], ((Below.refl _ w0).alloc (Nat.le_refl _) _).trans (hb1.mono (by simp))⟩
    have h0 : DRow (w0.alloc (.cells #[.int .u32 0] 155)) w0.heap.size [0] := Blk.new w0 _ _
    exact h0.below hb1 (by simp)
  clear hz hb1 hsz
  go_wp2
  go_loopw [26] (fun i wr => ∃ k c zs, k ≤ lb' ∧ i = .int .i64 (k : Nat) ∧ SubInv w0 wr w0.heap.size (w0.heap.size + 1) la' (digs a) (digs b) k c zs) (fun i _ => lb' - (intOf i).toNat)
  case atStart => exact ⟨0, _, _, Nat.zero_le _, rfl, hinv⟩
  case round =>
    obtain ⟨k, c, zs, hk, rfl, hI⟩ := hrel
    clear hinv
    by_cases hlt : k < lb'
    · obtain ⟨b1, o1, rfl, hb1, hc1⟩ := hx.digits.at_ (by omega)
      obtain ⟨b2, o2, rfl, hb2, hc2⟩ := hy.digits.at_ (by omega)
      have hcell1 := (hI.below.cell (p := ⟨b1, o1 + k, none⟩) hb1).trans (hc1 k (by omega))
      have hcell2 := (hI.below.cell (p := ⟨b2, o2 + k, none⟩) hb2).trans (hc2 k (by omega))
      have HI := Lib.hid hI
      have Hx := Lib.hid hx
      have Hy := Lib.hid hy
      clear hI hx hy hc1 hc2
      go_wp2_with fail
      have hd1 : (digs a)[k]?.getD 0 < 4294967296 := by have := (digs_wd a).getD k; rwa [List.getD_eq_getElem?_getD, BB_eq] at this
      have hd2 : (digs b)[k]?.getD 0 < 4294967296 := by have := (digs_wd b).getD k; rwa [List.getD_eq_getElem?_getD, BB_eq] at this
      refine (subClosure_any _ _ c w0.heap.size _ hd1 hd2 HI.out.carry HI.out.row).mono ?_
      rintro e w2 ⟨rfl, hw⟩
      have hz2 : DRow w2 (w0.heap.size + 1) zs := by rw [← hw]; exact HI.out.z.far (p := ⟨w0.heap.size, 0, none⟩) (by simp) _
      have hzc := hz2.cell (i := k) (by rw [HI.out.len]; omega)
      have hzf := hz2.frozen k
      have Hw := Lib.hid hw
      clear hw hz2
      go_wp2
      go_roundw
      case rel =>
        have := HI.out.step (w1 := w2) (digs_wd a) (digs_wd b) (by simp only [List.getD_eq_getElem?_getD]; exact Hw.out) (by omega) (by omega) (Nat.le_refl _) (by omega)
        simp only [List.getD_eq_getElem?_getD] at this
        exact ⟨k + 1, _, _, by omega, by go_num, this⟩
      case measure => simp [intOf]; omega
    · have hk2 : lb' = k := by omega
      subst hk2
      have HI := Lib.hid hI
      clear hI hlt hk
      go_wp2
      go_loopw [11] (fun i wq => ∃ k c zs, lb' ≤ k ∧ k ≤ la' ∧ i = .int .i64 (k : Nat) ∧ SubInv w0 wq w0.heap.size (w0.heap.size + 1) la' (digs a) (digs b) k c zs) (fun i _ => la' - (intOf i).toNat)
      case atStart => exact ⟨lb', _, _, Nat.le_refl _, hyx, rfl, HI.out⟩
      case round =>
        clear HI
        obtain ⟨k, c, zs, hk1, hk, rfl, hI⟩ := hrel
        have hd2 : (digs b).getD k 0 = 0 := by
          rw [List.getD_eq_getElem?_getD, List.getElem?_eq_none (by have := hly.out; unfold dlen at this; omega)]; rfl
        have Hd2 := Lib.hid hd2
        clear hd2
        by_cases hlt : k < la'
        · obtain ⟨b1, o1, rfl, hb1, hc1⟩ := hx.digits.at_ (by omega)
          have hcell1 := (hI.below.cell (p := ⟨b1, o1 + k, none⟩) hb1).trans (hc1 k (by omega))
          have HI := Lib.hid hI
          have Hx := Lib.hid hx
          have Hy := Lib.hid hy
          clear hI hx hy hc1
          go_wp2_with fail
          have hd1 : (digs a)[k]?.getD 0 < 4294967296 := by have := (digs_wd a).getD k; rwa [List.getD_eq_getElem?_getD, BB_eq] at this
          refine (subClosure_any _ 0 c w0.heap.size _ hd1 (by omega) HI.out.carry HI.out.row).mono ?_
          rintro e w2 ⟨rfl, hw⟩
          have hz2 : DRow w2 (w0.heap.size + 1) zs := by rw [← hw]; exact HI.out.z.far (p := ⟨w0.heap.size, 0, none⟩) (by simp) _
          have hzc := hz2.cell (i := k) (by rw [HI.out.len]; omega)
          have hzf := hz2.frozen k
          have Hw := Lib.hid hw
          clear hw hz2
          go_wp2
          go_roundw
          case rel =>
            have := HI.out.step (w1 := w2) (digs_wd a) (digs_wd b) (by rw [Hd2.out]; simp only [List.getD_eq_getElem?_getD]; exact Hw.out) (by omega) (by omega) (Nat.le_refl _) (by omega)
            rw [Hd2.out] at this
            simp only [List.getD_eq_getElem?_getD] at this
            exact ⟨k + 1, _, _, by omega, by omega, by go_num, this⟩
          case measure => simp [intOf]; omega
        · have hk2 : la' = k := by omega
          subst hk2
          have HI := Lib.hid hI
          clear hI hlt
          go_wp2_with fail
          obtain ⟨hdig, hval⟩ := HI.out.fin hlx.out.symm (by have := hly.out; unfold dlen at this; omega) (by rw [val_digs, val_digs]; exact Hle.out)
          rw [val_digs, val_digs] at hval
          refine (trim_dig _ _ _ _ _ _ hdig hval (by omega)).mono ?_
          rintro e w3 ⟨l3, rfl, h3, rfl⟩
          have H3 := Lib.hid h3
          clear h3 hdig hval
          go_wp2
          go_ret2
          exact ⟨_, _, _, rfl, H3.out, Hbd.out.trans (HI.out.below.mono (by rw [Hs0.out]; exact Nat.le_refl _)), fun b off e => by injection e with e; injection e with e1 _ _; have := Hs0.out; omega⟩

theorem sub_ge_dig (A B : Option Addr) (la ca lb cb a b : Nat) (da db : List Nat) (w : World) (ha : DigAt w A la ca da) (hb : DigAt w B lb cb db) (hva : val da = a) (hvb : val db = b) (hsa : la ≤ 2199023255552) (hsb : lb ≤ 2199023255552) (hle : b ≤ a) :
    Calls Try.prog 142 #[.slice A la ca, .slice B lb cb] w fun e w' => ∃ A' len' cap', e = .returned (.tuple #[.slice A' len' cap', .bool true]) ∧ NatN w' A' len' cap' (a - b) ∧ Below w.heap.size w w' :=
  (sub_ge_fresh A B la ca lb cb a b da db w ha hb hva hvb hsa hsb hle).mono fun _ _ ⟨A', l, c, h1, h2, h3, _⟩ => ⟨A', l, c, h1, h2, h3⟩

theorem sub_lt (A B : Option Addr) (la ca lb cb a b : Nat) (w : World) (ha : NatAt w A la ca a) (hb : NatAt w B lb cb b) (hsb : Sm b) (hlt : a < b) :
    Calls Try.prog 142 #[.slice A la ca, .slice B lb cb] w fun e w' => e = .returned (.tuple #[.slice none 0 0, .bool false]) ∧ Below w.heap.size w w' := by
  have hsa : Sm a := hsb.mono (by omega)
  obtain ⟨hsh, ds, hd, hv⟩ := ha
  obtain ⟨hsh2, ds2, hd2, hv2⟩ := hb
  exact sub_lt_dig A B la ca lb cb a b ds ds2 w hd hd2 hv hv2 (by unfold Sm at hsa; omega) (by unfold Sm at hsb; omega) hlt

theorem sub_ge (A B : Option Addr) (la ca lb cb a b : Nat) (w : World) (ha : NatAt w A la ca a) (hb : NatAt w B lb cb b) (hsa : Sm a) (hle : b ≤ a) :
    Calls Try.prog 142 #[.slice A la ca, .slice B lb cb] w fun e w' => ∃ A' len' cap', e = .returned (.tuple #[.slice A' len' cap', .bool true]) ∧ NatN w' A' len' cap' (a - b) ∧ Below w.heap.size w w' := by
  have hsb : Sm b := hsa.mono hle
  obtain ⟨hsh, ds, hd, hv⟩ := ha
  obtain ⟨hsh2, ds2, hd2, hv2⟩ := hb
  exact sub_ge_dig A B la ca lb cb a b ds ds2 w hd hd2 hv hv2 (by unfold Sm at hsa; omega) (by unfold Sm at hsb; omega) hle

end Go.Proofs.Ytfpliceenjbclaa
