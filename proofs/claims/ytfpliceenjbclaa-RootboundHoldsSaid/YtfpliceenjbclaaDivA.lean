/- The walks of division, first part: bits.Div32, natural.DivSmall. -/
import Derived.Test.YtfpliceenjbclaaIntD
namespace Go.Proofs.Ytfpliceenjbclaa
open Go.RowKit

/-- quotient and remainder of two digits by one -/
noncomputable def qD (h l y : Nat) : Nat := (h * BB + l) / y
noncomputable def rD (h l y : Nat) : Nat := (h * BB + l) % y

theorem div32_or {h l : Nat} (hh : h < 4294967296) (hl : l < 4294967296) : bits BinOp.or IntKind.u64 ((h : Int) * 4294967296) (l : Int) = ((h * 4294967296 + l : Nat) : Int) := by
  have e : (h : Int) * 4294967296 = ((h * 4294967296 : Nat) : Int) := by omega
  rw [e, u64_or_nat _ _ (by omega) (by omega)]
  have : h * 4294967296 = h <<< 32 := by rw [Nat.shiftLeft_eq]
  rw [this, ← Nat.shiftLeft_add_eq_or_of_lt (by omega : l < 2 ^ 32)]

theorem qD_lt {h l y : Nat} (hh : h < y) (hl : l < BB) : qD h l y < BB := by
  unfold qD
  refine Nat.div_lt_of_lt_mul ?_
  have : (h + 1) * BB ≤ y * BB := Nat.mul_le_mul hh (Nat.le_refl _)
  rw [Nat.add_mul, Nat.one_mul] at this
  omega
theorem rD_lt (h l y : Nat) (hy : 0 < y) : rD h l y < y := Nat.mod_lt _ hy
theorem qr_eq (h l y : Nat) : qD h l y * y + rD h l y = h * BB + l := by
  unfold qD rD
  rw [Nat.mul_comm]
  exact Nat.div_add_mod _ _

theorem div32_q {h l y : Nat} (hh : h < y) (hl : l < 4294967296) : IntKind.u64.wrap ((((h * 4294967296 + l : Nat) : Int)).tdiv (y : Int)) % 4294967296 = ((qD h l y : Nat) : Int) := by
  have h1 := qD_lt hh (by rw [BB_eq]; exact hl)
  have e : qD h l y = (h * 4294967296 + l) / y := by unfold qD; rw [BB_eq]
  rw [← Int.ofNat_tdiv, ← e, IntKind.wrap_u64]
  rw [BB_eq] at h1
  generalize qD h l y = q at *
  omega
theorem div32_r {h l y : Nat} (hh : h < y) (hy : y < 4294967296) : (((h * 4294967296 + l : Nat) : Int)).tmod (y : Int) % 4294967296 = ((rD h l y : Nat) : Int) := by
  have h1 := rD_lt h l y (by omega)
  have e : rD h l y = (h * 4294967296 + l) % y := by unfold rD; rw [BB_eq]
  rw [← Int.ofNat_tmod, ← e]
  generalize rD h l y = q at *
  omega

set_option maxHeartbeats 400000 in
theorem div32_any (h l y : Nat) (w : World) (hh : h < y) (hl : l < 4294967296) (hy : y < 4294967296) :
    Calls Try.prog 185 #[.int .u32 (h : Int), .int .u32 (l : Int), .int .u32 (y : Int)] w fun e w' => e = .returned (.tuple #[.int .u32 (qD h l y : Nat), .int .u32 (rD h l y : Nat)]) ∧ ∃ n, w' = w.drewN n := by
  have hor := Lib.hid (div32_or (show h < 4294967296 by omega) hl)
  have hq := Lib.hid (div32_q hh hl)
  have hr := Lib.hid (div32_r (l := l) hh hy)
  go_enter Try.func185, Try.ntmps185
  go_wp2
  go_quiet (fail)
  go_wp2
  go_ret2
  exact ⟨ret_int2 (by rw [hor.out]; exact hq.out) (by rw [hor.out]; exact hr.out), _, rfl⟩

/-- What holds in DivSmall when the digits from k on are done. -/
structure DsInv (w wr : World) (g la d : Nat) (ds : List Nat) (k r : Nat) (zs : List Nat) : Prop where
  rest : r < d
  row : DRow wr g zs
  len : zs.length = la
  wd : Wd zs
  eq : val (ds.drop k) = val (zs.drop k) * d + r
  below : Below w.heap.size w wr

theorem ds_arith (a B Z d r q r' V : Nat) (e : q * d + r' = r * B + a) (h : V = Z * d + r) : a + B * V = (q + B * Z) * d + r' := by
  subst h
  grind

theorem DsInv.step {w wr w1 : World} {g la d : Nat} {ds : List Nat} {k r : Nat} {zs : List Nat} (h : DsInv w wr g la d ds (k + 1) r zs) (hw : Wd ds) (hl : ds.length = la) (hk : k < la) (hg : w.heap.size ≤ g) (hn : ∃ n, w1 = wr.drewN n) :
    DsInv w (w1.setCell ⟨g, k, none⟩ (.int .u32 (qD r (ds.getD k 0) d : Nat))) g la d ds k (rD r (ds.getD k 0) d) (zs.set k (qD r (ds.getD k 0) d)) := by
  obtain ⟨n, rfl⟩ := hn
  refine ⟨rD_lt _ _ _ (by have := h.rest; omega), DRow.set_ (w := wr.drewN n) h.row k _, by rw [List.length_set, h.len], h.wd.set (qD_lt h.rest (hw.getD k)), ?_, ?_⟩
  · rw [drop_getD_cons ds (by omega), drop_getD_cons (zs.set k _) (by rw [List.length_set, h.len]; exact hk), drop_set_lt zs (by omega)]
    have e : (zs.set k (qD r (ds.getD k 0) d)).getD k 0 = qD r (ds.getD k 0) d := by
      rw [List.getD_eq_getElem?_getD, List.getElem?_set_self (by rw [h.len]; exact hk)]; rfl
    rw [e]
    exact ds_arith _ _ _ _ _ _ _ _ (qr_eq _ _ _) h.eq
  · have hq : Below w.heap.size wr (wr.drewN n) := ⟨rfl, rfl, rfl, Nat.le_refl _, fun _ _ => rfl⟩
    exact (h.below.trans hq).setCell hg _

set_option maxHeartbeats 1000000 in
theorem divSmall_any (A : Option Addr) (len cap n d : Nat) (w : World) (h : NatAt w A len cap n) (hs : Sm n) (hd0 : 0 < d) (hd : d < 4294967296) :
    Calls Try.prog 176 #[.slice A len cap, .int .u32 (d : Int)] w fun e w' => ∃ A' len' cap', e = .returned (.tuple #[.slice A' len' cap', .int .u32 ((n % d : Nat) : Int), .bool true]) ∧ NatN w' A' len' cap' (n / d) ∧ Below w.heap.size w w' := by
  go_enter Try.func176, Try.ntmps176
  go_wp2_with fail
  refine (trim_any _ _ _ _ _ h hs).mono ?_
  rintro e w1 ⟨l1, rfl, h1, rfl⟩
  have hl1 := Lib.hid h1.len
  have hlm : l1 ≤ 1099511627776 := by have := hl1.out; unfold Sm at hs; omega
  have hdig := h1.digits
  clear h h1 hs
  go_wp2_with (at_make; refine wpList_make_dig _ rfl (.tmp 15) (.tmp 15) rfl l1 rfl rfl (by omega) ?_)
  intro w1 hz hb1 hsz
  have Hz := Lib.hid hz
  have Hb1 := Lib.hid hb1
  have hlen := Lib.hid hdig.length
  clear hz hb1 hsz
  go_wp2
  go_loopw [8, 9] (fun r i wr => ∃ (k rr : Nat) (zs : List Nat), k ≤ l1 ∧ r = .int .u32 (rr : Int) ∧ i = .int .i64 ((k : Int) - 1) ∧ DsInv w wr w.heap.size l1 d (digs n) k rr zs) (fun _ i _ => (intOf i + 1).toNat)
  case atStart =>
    refine ⟨l1, 0, List.replicate l1 0, Nat.le_refl _, rfl, rfl, hd0, Hz.out, by simp, Wd.replicate _, ?_, Hb1.out⟩
    rw [List.drop_eq_nil_of_le (by rw [hlen.out]; omega), List.drop_eq_nil_of_le (by simp)]
    simp [val]
  case round =>
    clear Hz Hb1
    obtain ⟨k, rr, zs, hk, rfl, rfl, hinv⟩ := hrel
    cases k with
    | zero =>
      have he := hinv.eq
      rw [List.drop_zero, List.drop_zero, val_digs] at he
      have hrest := hinv.rest
      have hzl := hinv.len
      have hdz := hinv.row.dig hinv.wd (cap := l1) (by omega)
      rw [hzl] at hdz
      have hq : val zs = n / d := by rw [he, Nat.add_comm, Nat.add_mul_div_right _ _ hd0, Nat.div_eq_of_lt hrest, Nat.zero_add]
      have hr : rr = n % d := by rw [he, Nat.add_comm, Nat.add_mul_mod_self_right, Nat.mod_eq_of_lt hrest]
      have Hb := Lib.hid hinv.below
      subst hr
      clear he hrest hzl hinv hdig
      go_wp2_with fail
      refine (trim_dig _ _ _ _ _ _ hdz hq (by omega)).mono ?_
      rintro e w2 ⟨l2, rfl, h2, rfl⟩
      have H2 := Lib.hid h2
      clear h2 hdz hq
      go_wp2
      refine bodyPost_ret (v := .tuple #[.slice (some ⟨w.heap.size, 0, none⟩) l2 l1, .int .u32 ((n % d : Nat) : Int), .bool true]) (by simp [results, Try.results176, go_sem]) rfl ⟨_, _, _, rfl, H2.out, Hb.out⟩
    | succ k =>
      obtain ⟨b, off, rfl, hb, hc⟩ := hdig.at_ (by omega)
      have hcell := (hinv.below.cell (p := ⟨b, off + k, none⟩) hb).trans (hc k (by omega))
      have hkl : (k : Int) < (l1 : Int) := by omega
      have hrest := hinv.rest
      have hwk := (digs_wd n).getD k
      rw [BB_eq] at hwk
      have hstep := Lib.hid (fun w1 => hinv.step (w1 := w1) (digs_wd n) hlen.out (show k < l1 by omega) (Nat.le_refl _))
      have hzk := hinv.row.cell (i := k) (by rw [hinv.len]; omega)
      have hzf := hinv.row.frozen k
      have Hlt := Lib.hid hinv.row.lt
      clear hc hdig hinv
      rw [show ((k + 1 : Nat) : Int) - 1 = (k : Int) from by omega]
      go_wp2_with fail
      rw [← List.getD_eq_getElem?_getD]
      refine (div32_any _ _ _ _ hrest hwk hd).mono ?_
      rintro e w2 ⟨rfl, hw2⟩
      have Hs := Lib.hid (hstep.out w2 hw2)
      obtain ⟨nn, rfl⟩ := hw2
      have hzk2 : (wr.drewN nn).cell? ⟨w.heap.size, k, none⟩ = _ := hzk
      have hzf2 : (wr.drewN nn).frozen? ⟨w.heap.size, k, none⟩ = false := hzf
      clear hzk hzf hcell hwk hrest
      go_wp2
      go_roundw
      case rel => exact ⟨k, _, _, by omega, rfl, rfl, Hs.out⟩
      case measure => simp [intOf]
end Go.Proofs.Ytfpliceenjbclaa
