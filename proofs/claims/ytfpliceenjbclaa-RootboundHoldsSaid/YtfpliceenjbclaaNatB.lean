/- The walks of package natural, second part: bits.Add32, bits.Sub32, bits.Mul32, Add, Sub. -/
import Derived.Test.YtfpliceenjbclaaNatA
import Derived.Deep.CutRange
import Derived.Deep.DeepCutAuto
namespace Go.Proofs.Ytfpliceenjbclaa
open Go.RowKit

/-- sum with carry: the digit and the carry -/
noncomputable def sLo (x y c : Nat) : Nat := (x + y + c) % BB
noncomputable def sHi (x y c : Nat) : Nat := (x + y + c) / BB
/-- difference with borrow -/
noncomputable def dLo (x y c : Nat) : Nat := (x + BB - y - c) % BB
def dHi (x y c : Nat) : Nat := if x < y + c then 1 else 0
/-- product -/
noncomputable def mLo (x y : Nat) : Nat := x * y % BB
noncomputable def mHi (x y : Nat) : Nat := x * y / BB

theorem ret_int {k : IntKind} {a b : Int} (h : a = b) : Ending.returned (.int k a) = .returned (.int k b) := by rw [h]
theorem ret_int2 {k l : IntKind} {a b c d : Int} (h : a = b) (h' : c = d) : Ending.returned (.tuple #[.int k a, .int l c]) = .returned (.tuple #[.int k b, .int l d]) := by rw [h, h']

theorem bit31 {v : Nat} (h : v < 4294967296) : v.testBit 31 = decide (2147483648 ≤ v) := by
  rw [Nat.testBit_eq_decide_div_mod_eq]
  by_cases h1 : 2147483648 ≤ v
  · simp only [h1, decide_true, decide_eq_true_eq]; omega
  · simp only [h1, decide_false, decide_eq_false_iff_not]; omega

theorem borrow_nat (x y c d : Nat) (hx : x < 4294967296) (hy : y < 4294967296) (hc : c ≤ 1) (hd : d = (x + 4294967296 - y - c) % 4294967296) :
    (((4294967295 ^^^ x) &&& y) ||| ((4294967295 ^^^ (x ^^^ y)) &&& d)) / 2147483648 = if x < y + c then 1 else 0 := by
  have hd4 : d < 4294967296 := by omega
  have h1 : (4294967295 ^^^ x) &&& y < 2 ^ 32 := Nat.and_lt_two_pow _ (by omega)
  have h2 : (4294967295 ^^^ (x ^^^ y)) &&& d < 2 ^ 32 := Nat.and_lt_two_pow _ (by omega)
  have h3 : ((4294967295 ^^^ x) &&& y) ||| ((4294967295 ^^^ (x ^^^ y)) &&& d) < 2 ^ 32 := Nat.or_lt_two_pow h1 h2
  have hb := bit31 (v := ((4294967295 ^^^ x) &&& y) ||| ((4294967295 ^^^ (x ^^^ y)) &&& d)) (by omega)
  rw [Nat.testBit_or, Nat.testBit_and, Nat.testBit_and, Nat.testBit_xor, Nat.testBit_xor, Nat.testBit_xor, bit31 hx, bit31 hy, bit31 hd4, bit31 (v := 4294967295) (by omega)] at hb
  generalize ((4294967295 ^^^ x) &&& y) ||| ((4294967295 ^^^ (x ^^^ y)) &&& d) = r at h3 hb ⊢
  have hr : r / 2147483648 = if 2147483648 ≤ r then 1 else 0 := by split <;> omega
  rw [hr]
  by_cases hx1 : 2147483648 ≤ x <;> by_cases hy1 : 2147483648 ≤ y <;> by_cases hd1 : 2147483648 ≤ d <;> simp [hx1, hy1, hd1] at hb <;> by_cases hr1 : 2147483648 ≤ r <;> simp [hr1] <;> omega

theorem borrow_bits (x y c : Nat) (hx : x < 4294967296) (hy : y < 4294967296) (hc : c ≤ 1) :
    bits BinOp.or IntKind.u32 (bits BinOp.and IntKind.u32 (bits BinOp.xor IntKind.u32 IntKind.u32.max x) y)
      (bits BinOp.and IntKind.u32 (bits BinOp.xor IntKind.u32 IntKind.u32.max (bits BinOp.xor IntKind.u32 x y)) (((x : Int) - y - c) % 4294967296)) / 2147483648 = ((if x < y + c then 1 else 0 : Nat) : Int) := by
  have hm : IntKind.u32.max = ((4294967295 : Nat) : Int) := rfl
  have hxy : x ^^^ y < 2 ^ 32 := Nat.xor_lt_two_pow (by omega) (by omega)
  have h1 : 4294967295 ^^^ x < 2 ^ 32 := Nat.xor_lt_two_pow (by omega) (by omega)
  have h2 : 4294967295 ^^^ (x ^^^ y) < 2 ^ 32 := Nat.xor_lt_two_pow (by omega) (by omega)
  have hd : ((x : Int) - y - c) % 4294967296 = (((x + 4294967296 - y - c) % 4294967296 : Nat) : Int) := by omega
  have hd4 : (x + 4294967296 - y - c) % 4294967296 < 4294967296 := by omega
  have h3 : (4294967295 ^^^ x) &&& y < 2 ^ 32 := Nat.and_lt_two_pow _ (by omega)
  have h4 : (4294967295 ^^^ (x ^^^ y)) &&& ((x + 4294967296 - y - c) % 4294967296) < 2 ^ 32 := Nat.and_lt_two_pow _ (by omega)
  rw [hm, hd, u32_xor_nat _ _ (by omega) hx, u32_xor_nat x y hx hy, u32_xor_nat _ _ (by omega) (by omega), u32_and_nat _ _ (by omega) hy, u32_and_nat _ _ (by omega) hd4, u32_or_nat _ _ (by omega) (by omega)]
  rw [← borrow_nat x y c _ hx hy hc rfl]
  omega

set_option maxHeartbeats 400000 in
theorem add32_any (x y c : Nat) (w : World) (hx : x < 4294967296) (hy : y < 4294967296) (hc : c ≤ 1) :
    Calls Try.prog 162 #[.int .u32 (x : Int), .int .u32 (y : Int), .int .u32 (c : Int)] w fun e w' => e = .returned (.tuple #[.int .u32 (sLo x y c : Nat), .int .u32 (sHi x y c : Nat)]) ∧ w = w' := by
  go_enter Try.func162, Try.ntmps162
  go_wp2
  go_ret2
  exact ⟨ret_int2 (by unfold sLo; rw [BB_eq]; omega) (by unfold sHi; rw [BB_eq]; omega), rfl⟩

set_option maxHeartbeats 400000 in
theorem sub32_any (x y c : Nat) (w : World) (hx : x < 4294967296) (hy : y < 4294967296) (hc : c ≤ 1) :
    Calls Try.prog 164 #[.int .u32 (x : Int), .int .u32 (y : Int), .int .u32 (c : Int)] w fun e w' => e = .returned (.tuple #[.int .u32 (dLo x y c : Nat), .int .u32 (dHi x y c : Nat)]) ∧ w = w' := by
  have hsg : IntKind.u32.signed = false := rfl
  have hbo := Lib.hid (borrow_bits x y c hx hy hc)
  go_enter Try.func164, Try.ntmps164
  go_wp2
  go_ret2
  exact ⟨ret_int2 (by unfold dLo; rw [BB_eq]; omega) (by unfold dHi; exact hbo.out), rfl⟩

theorem mul_small {x y : Nat} (hx : x < 4294967296) (hy : y < 4294967296) : x * y ≤ 18446744065119617025 := Nat.le_trans (Nat.mul_le_mul (Nat.le_sub_one_of_lt hx) (Nat.le_sub_one_of_lt hy)) (Nat.le_refl _)

theorem mul_hi {x y : Nat} (_h : x * y ≤ 18446744065119617025) : IntKind.u64.wrap ((x : Int) * y) / 4294967296 % 4294967296 = ((mHi x y : Nat) : Int) := by
  unfold mHi
  rw [← Int.natCast_mul, BB_eq, IntKind.wrap_u64]
  generalize x * y = p at *
  omega
theorem mul_lo {x y : Nat} (_h : x * y ≤ 18446744065119617025) : IntKind.u64.wrap ((x : Int) * y) % 4294967296 = ((mLo x y : Nat) : Int) := by
  unfold mLo
  rw [← Int.natCast_mul, BB_eq, IntKind.wrap_u64]
  generalize x * y = p at *
  omega

set_option maxHeartbeats 400000 in
theorem mul32_any (x y : Nat) (w : World) (hx : x < 4294967296) (hy : y < 4294967296) :
    Calls Try.prog 184 #[.int .u32 (x : Int), .int .u32 (y : Int)] w fun e w' => e = .returned (.tuple #[.int .u32 (mHi x y : Nat), .int .u32 (mLo x y : Nat)]) ∧ w = w' := by
  go_enter Try.func184, Try.ntmps184
  have hp := Lib.hid (mul_small hx hy)
  go_wp2
  go_ret2
  have hp := hp.out
  exact ⟨ret_int2 (mul_hi hp) (mul_lo hp), rfl⟩

/-- The closure of Add: the sum with the carry, which is stored. -/
theorem addClosure_any (x y c B : Nat) (w : World) (hx : x < 4294967296) (hy : y < 4294967296) (hc : c ≤ 1) (hB : DRow w B [c]) :
    Calls Try.prog 161 #[.int .u32 (x : Int), .int .u32 (y : Int), .pointer (some ⟨B, 0, none⟩)] w fun e w' => e = .returned (.int .u32 (sLo x y c : Nat)) ∧ w.setCell ⟨B, 0, none⟩ (.int .u32 (sHi x y c : Nat)) = w' := by
  have h0 : w.cell? ⟨B, 0, none⟩ = some (.int .u32 (c : Int)) := hB.cell (i := 0) (by simp)
  have hf := hB.frozen 0
  clear hB
  go_enter Try.func161, Try.ntmps161
  go_wp2_with (go_at_call 162; refine (add32_any _ _ _ _ hx hy hc).mono ?_; rintro e w1 ⟨rfl, rfl⟩)
  go_ret
  exact ⟨rfl, rfl⟩

theorem subClosure_any (x y c B : Nat) (w : World) (hx : x < 4294967296) (hy : y < 4294967296) (hc : c ≤ 1) (hB : DRow w B [c]) :
    Calls Try.prog 163 #[.int .u32 (x : Int), .int .u32 (y : Int), .pointer (some ⟨B, 0, none⟩)] w fun e w' => e = .returned (.int .u32 (dLo x y c : Nat)) ∧ w.setCell ⟨B, 0, none⟩ (.int .u32 (dHi x y c : Nat)) = w' := by
  have h0 : w.cell? ⟨B, 0, none⟩ = some (.int .u32 (c : Int)) := hB.cell (i := 0) (by simp)
  have hf := hB.frozen 0
  clear hB
  go_enter Try.func163, Try.ntmps163
  go_wp2_with (go_at_call 164; refine (sub32_any _ _ _ _ hx hy hc).mono ?_; rintro e w1 ⟨rfl, rfl⟩)
  go_ret
  exact ⟨rfl, rfl⟩


/-- What holds of Add's rows when k digits are done. -/
structure AddInv (w wr : World) (Bc g n : Nat) (dx dy : List Nat) (k c : Nat) (zs : List Nat) : Prop where
  carry : c ≤ 1
  row : DRow wr Bc [c]
  z : DRow wr g zs
  len : zs.length = n
  wd : Wd zs
  sum : val (zs.take k) + BB ^ k * c = val (dx.take k) + val (dy.take k)
  below : Below w.heap.size w wr

theorem sLo_lt (x y c : Nat) : sLo x y c < BB := Nat.mod_lt _ BB_pos
theorem sHi_le {x y c : Nat} (hx : x < BB) (hy : y < BB) (hc : c ≤ 1) : sHi x y c ≤ 1 := by
  unfold sHi
  rw [BB_eq] at *; omega
theorem s_eq (x y c : Nat) : sLo x y c + BB * sHi x y c = x + y + c := Nat.mod_add_div _ _

theorem AddInv.step {w wr w1 : World} {Bc g n : Nat} {dx dy : List Nat} {k c : Nat} {zs : List Nat} (h : AddInv w wr Bc g n dx dy k c zs) (hx : Wd dx) (hy : Wd dy)
    (hw : wr.setCell ⟨Bc, 0, none⟩ (.int .u32 (sHi (dx.getD k 0) (dy.getD k 0) c : Nat)) = w1) (hk : k < n) (hg : g ≠ Bc) (hwB : w.heap.size ≤ Bc) (hwg : w.heap.size ≤ g) :
    AddInv w (w1.setCell ⟨g, k, none⟩ (.int .u32 (sLo (dx.getD k 0) (dy.getD k 0) c : Nat))) Bc g n dx dy (k + 1) (sHi (dx.getD k 0) (dy.getD k 0) c) (zs.set k (sLo (dx.getD k 0) (dy.getD k 0) c)) := by
  subst hw
  have h1 : DRow (wr.setCell ⟨Bc, 0, none⟩ (.int .u32 (sHi (dx.getD k 0) (dy.getD k 0) c : Nat))) Bc [sHi (dx.getD k 0) (dy.getD k 0) c] := h.row.set_ 0 _
  have h2 := h.z.far (p := ⟨Bc, 0, none⟩) hg (.int .u32 (sHi (dx.getD k 0) (dy.getD k 0) c : Nat))
  refine ⟨sHi_le (hx.getD k) (hy.getD k) h.carry, h1.far (p := ⟨g, k, none⟩) (fun e => hg e.symm) _, h2.set_ k _, by rw [List.length_set, h.len], h.wd.set (sLo_lt _ _ _), ?_, ((h.below.setCell (p := ⟨Bc, 0, none⟩) hwB _).setCell (p := ⟨g, k, none⟩) hwg _)⟩
  rw [take_set_succ zs (by rw [h.len]; exact hk), val_append, val_take_succ' dx, val_take_succ' dy]
  have e1 : (zs.take k).length = k := by rw [List.length_take, h.len]; omega
  have e2 := s_eq (dx.getD k 0) (dy.getD k 0) c
  have e3 := h.sum
  rw [e1, Nat.pow_succ]
  simp only [val, Nat.mul_zero, Nat.add_zero]
  have e4 : BB ^ k * sLo (dx.getD k 0) (dy.getD k 0) c + BB ^ k * BB * sHi (dx.getD k 0) (dy.getD k 0) c = BB ^ k * (dx.getD k 0 + dy.getD k 0 + c) := by
    rw [← e2, Nat.mul_add, Nat.mul_assoc]
  rw [Nat.mul_add, Nat.mul_add] at e4
  omega

theorem AddInv.fin {w wr : World} {Bc g m : Nat} {dx dy : List Nat} {c : Nat} {zs : List Nat} (h : AddInv w wr Bc g (m + 1) dx dy m c zs) (_hx : Wd dx) (hxl : dx.length = m) (hyl : dy.length ≤ m)
    (hwg : w.heap.size ≤ g := by omega) : Below w.heap.size w (wr.setCell ⟨g, m, none⟩ (.int .u32 (c : Nat))) ∧
      (m ≤ dlen (val dx + val dy) → NatAt (wr.setCell ⟨g, m, none⟩ (.int .u32 (c : Nat))) (some ⟨g, 0, none⟩) (m + 1) (m + 1) (val dx + val dy)) := by
  refine ⟨h.below.setCell (p := ⟨g, m, none⟩) hwg _, fun hm => ⟨by omega, zs.set m c, ?_, ?_⟩⟩
  · have hl : (zs.set m c).length = m + 1 := by rw [List.length_set, h.len]
    have := (h.z.set_ m c).dig (h.wd.set (by have := h.carry; rw [BB_eq]; omega)) (cap := m + 1) (by omega)
    rw [hl] at this
    exact this
  · have e1 : (zs.set m c) = (zs.set m c).take (m + 1) := by rw [List.take_of_length_le (by rw [List.length_set, h.len]; omega)]
    rw [e1, take_set_succ zs (by rw [h.len]; omega), val_append]
    have e2 : (zs.take m).length = m := by rw [List.length_take, h.len]; omega
    have e3 := h.sum
    rw [List.take_of_length_le (l := dx) (by omega), List.take_of_length_le (l := dy) hyl] at e3
    rw [e2]
    simpa [val] using e3

set_option maxHeartbeats 1000000 in
theorem add_dig (A B : Option Addr) (la ca lb cb a b : Nat) (da db : List Nat) (w : World) (ha : DigAt w A la ca da) (hb : DigAt w B lb cb db) (hva : val da = a) (hvb : val db = b) (hsa : la ≤ 2199023255552) (hsb : lb ≤ 2199023255552) :
    Calls Try.prog 141 #[.slice A la ca, .slice B lb cb] w fun e w' => ∃ A' len' cap', e = .returned (.slice A' len' cap') ∧ NatN w' A' len' cap' (a + b) ∧ Below w.heap.size w w' := by
  go_enter Try.func141, Try.ntmps141
  go_wp2_with fail
  refine (trim_dig _ _ _ _ _ _ ha hva (by omega)).mono ?_
  rintro e w1 ⟨la', rfl, ha', rfl⟩
  go_wp2_with fail
  refine (trim_dig _ _ _ _ _ _ hb hvb (by omega)).mono ?_
  rintro e w1 ⟨lb', rfl, hb', rfl⟩
  have hma : dlen a ≤ 2199023255552 := by have h2 := dlen_val_le ha.wd; have h3 := ha.length; rw [hva] at h2; omega
  have hmb : dlen b ≤ 2199023255552 := by have h2 := dlen_val_le hb.wd; have h3 := hb.length; rw [hvb] at h2; omega
  have Hma := Lib.hid hma
  have Hmb := Lib.hid hmb
  clear ha hb hva hvb hsa hsb hma hmb
  go_upto_if 19 with (fail)
  go_cut [0, 1] (fun s0 s1 wx => ∃ X lx cx x Y ly cy y, s0 = .slice X lx cx ∧ s1 = .slice Y ly cy ∧ NatN w X lx cx x ∧ NatN w Y ly cy y ∧ ly ≤ lx ∧ lx ≤ 2199023255552 ∧ Hid (x + y = a + b) ∧ w = wx)
  case first =>
    by_cases hlt : la' < lb'
    · go_wp2_with (fail)
      go_meet
      exact ⟨_, _, _, _, _, _, _, _, rfl, rfl, hb', ha', by omega, by have := hb'.len; have := Hmb.out; omega, Nat.add_comm _ _, rfl⟩
    · go_wp2_with (fail)
      go_meet
      exact ⟨_, _, _, _, _, _, _, _, rfl, rfl, ha', hb', by omega, by have := ha'.len; have := Hma.out; omega, rfl, rfl⟩
  case rest =>
    obtain ⟨X, lx, cx, x, Y, ly, cy, y, rfl, rfl, hx, hy, hyx, hm, hxy, rfl⟩ := hcut
    clear ha' hb'
    have hlx := Lib.hid hx.len
    have hly := Lib.hid hy.len
    go_wp2_with (at_make; refine wpList_make_dig _ rfl (.tmp 25) (.tmp 25) rfl (lx + 1) rfl rfl (by omega) ?_)
    intro w1 hz hb1 hsz
    have hinv : AddInv w w1 w.heap.size (w.heap.size + 1) (lx + 1) (digs x) (digs y) 0 0 (List.replicate (lx + 1) 0) := by
      refine ⟨by omega, ?_, by simpa using hz, by simp, Wd.replicate _, by simp [val], ((Below.refl _ w).alloc (Nat.le_refl _) _).trans (hb1.mono (by simp))⟩
      have h0 : DRow (w.alloc (.cells #[.int .u32 0] 155)) w.heap.size [0] := Blk.new w _ _
      exact h0.below hb1 (by simp)
    clear hz hb1 hsz
    go_wp2
    go_loopw [29] (fun i wr => ∃ k c zs, k ≤ ly ∧ i = .int .i64 (k : Nat) ∧ AddInv w wr w.heap.size (w.heap.size + 1) (lx + 1) (digs x) (digs y) k c zs) (fun i _ => ly - (intOf i).toNat)
    case atStart => exact ⟨0, _, _, Nat.zero_le _, rfl, hinv⟩
    case round =>
      obtain ⟨k, c, zs, hk, rfl, hI⟩ := hrel
      clear hinv
      by_cases hlt : k < ly
      · obtain ⟨b1, o1, rfl, hb1, hc1⟩ := hx.digits.at_ (by omega)
        obtain ⟨b2, o2, rfl, hb2, hc2⟩ := hy.digits.at_ (by omega)
        have hcell1 := (hI.below.cell (p := ⟨b1, o1 + k, none⟩) hb1).trans (hc1 k (by omega))
        have hcell2 := (hI.below.cell (p := ⟨b2, o2 + k, none⟩) hb2).trans (hc2 k (by omega))
        have HI := Lib.hid hI
        have Hx := Lib.hid hx
        have Hy := Lib.hid hy
        clear hI hx hy hc1 hc2
        go_wp2_with fail
        have hd1 : (digs x)[k]?.getD 0 < 4294967296 := by have := (digs_wd x).getD k; rwa [List.getD_eq_getElem?_getD, BB_eq] at this
        have hd2 : (digs y)[k]?.getD 0 < 4294967296 := by have := (digs_wd y).getD k; rwa [List.getD_eq_getElem?_getD, BB_eq] at this
        refine (addClosure_any _ _ c w.heap.size _ hd1 hd2 HI.out.carry HI.out.row).mono ?_
        rintro e w2 ⟨rfl, hw⟩
        have hz2 : DRow w2 (w.heap.size + 1) zs := by rw [← hw]; exact HI.out.z.far (p := ⟨w.heap.size, 0, none⟩) (by simp) _
        have hzc := hz2.cell (i := k) (by rw [HI.out.len]; omega)
        have hzf := hz2.frozen k
        have Hw := Lib.hid hw
        clear hw hz2
        go_wp2
        go_roundw
        case rel =>
          have := HI.out.step (w1 := w2) (digs_wd x) (digs_wd y) (by simp only [List.getD_eq_getElem?_getD]; exact Hw.out) (by omega) (by omega) (Nat.le_refl _) (by omega)
          simp only [List.getD_eq_getElem?_getD] at this
          exact ⟨k + 1, _, _, by omega, by go_num, this⟩
        case measure => simp [intOf]; omega
      · have hk2 : ly = k := by omega
        subst hk2
        have HI := Lib.hid hI
        clear hI hlt hk
        go_wp2
        go_loopw [10] (fun i wq => ∃ k c zs, ly ≤ k ∧ k ≤ lx ∧ i = .int .i64 (k : Nat) ∧ AddInv w wq w.heap.size (w.heap.size + 1) (lx + 1) (digs x) (digs y) k c zs) (fun i _ => lx - (intOf i).toNat)
        case atStart => exact ⟨ly, _, _, Nat.le_refl _, hyx, rfl, HI.out⟩
        case round =>
          clear HI
          obtain ⟨k, c, zs, hk1, hk, rfl, hI⟩ := hrel
          have hd2 : (digs y).getD k 0 = 0 := by
            rw [List.getD_eq_getElem?_getD, List.getElem?_eq_none (by have := hly.out; unfold dlen at this; omega)]; rfl
          have Hd2 := Lib.hid hd2
          clear hd2
          by_cases hlt : k < lx
          · obtain ⟨b1, o1, rfl, hb1, hc1⟩ := hx.digits.at_ (by omega)
            have hcell1 := (hI.below.cell (p := ⟨b1, o1 + k, none⟩) hb1).trans (hc1 k (by omega))
            have HI := Lib.hid hI
            have Hx := Lib.hid hx
            have Hy := Lib.hid hy
            clear hI hx hy hc1
            go_wp2_with fail
            have hd1 : (digs x)[k]?.getD 0 < 4294967296 := by have := (digs_wd x).getD k; rwa [List.getD_eq_getElem?_getD, BB_eq] at this
            refine (addClosure_any _ 0 c w.heap.size _ hd1 (by omega) HI.out.carry HI.out.row).mono ?_
            rintro e w2 ⟨rfl, hw⟩
            have hz2 : DRow w2 (w.heap.size + 1) zs := by rw [← hw]; exact HI.out.z.far (p := ⟨w.heap.size, 0, none⟩) (by simp) _
            have hzc := hz2.cell (i := k) (by rw [HI.out.len]; omega)
            have hzf := hz2.frozen k
            have Hw := Lib.hid hw
            clear hw hz2
            go_wp2
            go_roundw
            case rel =>
              have := HI.out.step (w1 := w2) (digs_wd x) (digs_wd y) (by rw [Hd2.out]; simp only [List.getD_eq_getElem?_getD]; exact Hw.out) (by omega) (by omega) (Nat.le_refl _) (by omega)
              rw [Hd2.out] at this
              simp only [List.getD_eq_getElem?_getD] at this
              exact ⟨k + 1, _, _, by omega, by omega, by go_num, this⟩
            case measure => simp [intOf]; omega
          · have hk2 : lx = k := by omega
            subst hk2
            have hc0 : _ = some (Value.int .u32 (c : Int)) := hI.row.cell (i := 0) (by simp)
            have hzc := hI.z.cell (i := lx) (by rw [hI.len]; omega)
            have hzf := hI.z.frozen lx
            have HI := Lib.hid hI
            clear hI hlt
            go_wp2_with fail
            have hfin := HI.out.fin (digs_wd x) hlx.out.symm (by have := hly.out; unfold dlen at this; omega)
            rw [val_digs, val_digs, hxy.out] at hfin
            obtain ⟨_, ds, hdig, hval⟩ := hfin.2 (by have := hlx.out; have := dlen_mono (show x ≤ a + b by have := hxy.out; omega); omega)
            refine (trim_dig _ _ _ _ _ _ hdig hval (by omega)).mono ?_
            rintro e w3 ⟨l3, rfl, h3, rfl⟩
            have H3 := Lib.hid h3
            have Hf := Lib.hid hfin.1
            clear h3 hfin hdig hval
            go_wp2
            go_ret
            exact ⟨_, _, _, rfl, H3.out, Hf.out⟩

theorem add_any (A B : Option Addr) (la ca lb cb a b : Nat) (w : World) (ha : NatAt w A la ca a) (hb : NatAt w B lb cb b) (hs : Sm (a + b)) :
    Calls Try.prog 141 #[.slice A la ca, .slice B lb cb] w fun e w' => ∃ A' len' cap', e = .returned (.slice A' len' cap') ∧ NatN w' A' len' cap' (a + b) ∧ Below w.heap.size w w' := by
  have hsa : Sm a := hs.mono (Nat.le_add_right _ _)
  have hsb : Sm b := hs.mono (Nat.le_add_left _ _)
  obtain ⟨hsh, ds, hd, hv⟩ := ha
  obtain ⟨hsh2, ds2, hd2, hv2⟩ := hb
  exact add_dig A B la ca lb cb a b ds ds2 w hd hd2 hv hv2 (by unfold Sm at hsa; omega) (by unfold Sm at hsb; omega)

end Go.Proofs.Ytfpliceenjbclaa
