/- The walk of cylinderref01.Mul. -/
import Derived.Test.YtgblfpkfapmlnaaBtc
namespace Go.Proofs.Ytgblfpkfapmlnaa
open Go.RowKit

/-- the row of the product inside a round -/
def mrn (B N x y i k j : Nat) : Nat := if j < i + k then dgt B (mU B N x y i k) j else dgt B N j
theorem mrn_zero {B : Nat} (hB : 0 < B) (N x y i j : Nat) : mrn B N x y i 0 j = dgt B N j := by
  unfold mrn
  rw [mU_zero]
  split
  · rename_i h
    have e := dgt_low hB (N % B ^ i) (N / B ^ i) (m := i) (j := j) (by omega)
    rw [Nat.mul_comm, Nat.mod_add_div] at e
    exact e.symm
  · rfl
theorem mrn_step {B : Nat} (hB : 0 < B) {N x y i k : Nat} (hx : x < B) {v : Nat} (hv : v = dgt B N (i + k) + x * dgt B y k + mU B N x y i k / B ^ (i + k)) (j : Nat) :
    (if j = i + k then v % B else mrn B N x y i k j) = mrn B N x y i (k + 1) j := by
  obtain ⟨h1, _, h3, _⟩ := mul_step hB N y i k hx hv
  unfold mrn
  by_cases h : j = i + k
  · rw [if_pos h, if_pos (by omega), h, h1]
  · rw [if_neg h]
    by_cases h4 : j < i + k
    · rw [if_pos h4, if_pos (by omega), h3 j h4]
    · rw [if_neg h4, if_neg (by omega)]
theorem mrn_end {B : Nat} (hB : 0 < B) {a y i l : Nat} (hy : y < B ^ l) (j : Nat) : (if j = i + l then mU B (a % B ^ i * y) (dgt B a i) y i l / B ^ (i + l) else mrn B (a % B ^ i * y) (dgt B a i) y i l j) = dgt B (a % B ^ (i + 1) * y) j := by
  have h1 := row_lt a y i l hy hB
  have h2 := row_lt a y (i + 1) l hy hB
  have h5 := mU_full a y i l hy hB
  unfold mrn
  rw [h5]
  by_cases h : j = i + l
  · rw [if_pos h, h, dgt_top (by rw [show i + l + 1 = i + 1 + l by omega]; exact h2)]
  · rw [if_neg h]
    by_cases h4 : j < i + l
    · rw [if_pos h4]
    · rw [if_neg h4, dgt_zero (Nat.lt_of_lt_of_le h1 (Nat.pow_le_pow_right hB (by omega))), dgt_zero (Nat.lt_of_lt_of_le h2 (Nat.pow_le_pow_right hB (by omega)))]
def mrow (N x y i k j : Nat) : Int := ((mrn 32768 N x y i k j : Nat) : Int)
theorem mrow_zero (N x y i : Nat) (n : Nat) : tab n (mrow N x y i 0) = tab n (wds N) := tab_ext fun j _ => by unfold mrow wds; rw [mrn_zero (by decide)]
theorem mrow_step {N x y i k : Nat} (hx : x < 32768) {v : Nat} (hv : v = dgt 32768 N (i + k) + x * dgt 32768 y k + mU 32768 N x y i k / 32768 ^ (i + k)) (n : Nat) :
    tab n (fun t => if t = i + k then ((v % 32768 : Nat) : Int) else mrow N x y i k t) = tab n (mrow N x y i (k + 1)) := tab_ext fun j _ => by
  have h := mrn_step (by decide) hx hv j
  unfold mrow
  rw [← h]
  split <;> rfl
theorem mrow_end {a y i l : Nat} (hy : y < 32768 ^ l) (n : Nat) : tab n (fun t => if t = i + l then ((mU 32768 (a % 32768 ^ i * y) (dgt 32768 a i) y i l / 32768 ^ (i + l) : Nat) : Int) else mrow (a % 32768 ^ i * y) (dgt 32768 a i) y i l t) = tab n (wds (a % 32768 ^ (i + 1) * y)) := tab_ext fun j _ => by
  have h := mrn_end (by decide) hy j (a := a) (i := i)
  unfold mrow wds
  rw [← h]
  split <;> rfl
theorem mrow_at (N x y i k : Nat) : mrow N x y i k (i + k) = ((dgt 32768 N (i + k) : Nat) : Int) := by unfold mrow mrn; rw [if_neg (by omega)]

theorem below_drewN {B : Nat} {a w : World} (h : Below B a w) (n : Nat) : Below B a (w.drewN n) := ⟨h.os, h.tape, h.output, h.size, h.block⟩
set_option maxRecDepth 100000 in
set_option maxHeartbeats 8000000 in
theorem bmul_any (A : Option Addr) (la ca a : Nat) (B : Option Addr) (lb cb b : Nat) (w : World) (ha : I64At w A la ca (bts a)) (hb : I64At w B lb cb (bts b)) (hma : la ≤ 400000) (hmb : lb ≤ 400000) :
    Calls Try.prog 98 #[.slice A la ca, .slice B lb cb] w fun e w' => ∃ A' l' c', e = .returned (.slice A' l' c') ∧ I64At w' A' l' c' (bts (a * b)) ∧ Typ w' A' l' ∧ Below w.heap.size w w' := by
  have hla := ha.length
  have hlb := hb.length
  rw [bts_length] at hla hlb
  have HA := Lib.hid ha
  have HB := Lib.hid hb
  obtain ⟨lx, hlx⟩ : ∃ lx, lx = wln 15 a := ⟨_, rfl⟩
  obtain ⟨ly, hly⟩ : ∃ ly, ly = wln 15 b := ⟨_, rfl⟩
  have Hax := Lib.hid (show a < 32768 ^ lx by rw [hlx]; exact lt_wln (s := 15) (by decide) a)
  have Hby := Lib.hid (show b < 32768 ^ ly by rw [hly]; exact lt_wln (s := 15) (by decide) b)
  have lxb : lx ≤ 27000 := by rw [hlx]; unfold wln; omega
  have lyb : ly ≤ 27000 := by rw [hly]; unfold wln; omega
  obtain ⟨n, hn⟩ : ∃ n, n = lx + ly := ⟨_, rfl⟩
  have n1 : (lx : Int) + (ly : Int) = (n : Int) := by omega
  have n2 : IntKind.i64.wrap (n : Int) = (n : Int) := IntWalk.i64_in _ (by omega)
  have HL := Lib.hid (And.intro hlx hly)
  have Hn := Lib.hid hn
  have hnb : n ≤ 54000 := by omega
  clear hlx hly hla hlb ha hb hn
  go_enter Try.func98, Try.ntmps98
  go_wp2_with fail
  refine (words_any _ _ _ a _ HA.out (by omega)).mono ?_
  rintro e w1 ⟨rfl, hx, hb1⟩
  rw [← HL.out.1] at hx
  rw [← HL.out.1]
  have hg1 := hx.lt
  have Hx := Lib.hid hx
  have Hb1 := Lib.hid hb1
  have hs1 := hb1.size
  clear hx hb1
  go_wp2_with fail
  refine (words_any _ _ _ b _ (HB.out.below Hb1.out) (by omega)).mono ?_
  rintro e w2 ⟨rfl, hy, hb2⟩
  rw [← HL.out.2] at hy
  rw [← HL.out.2]
  have hg2 := hy.lt
  have hs2 := hb2.size
  have hx2 := Hx.out.below hb2 (by omega)
  have Hb2 := Lib.hid (Hb1.out.trans (hb2.mono hs1))
  have HX := Lib.hid hx2
  have HY := Lib.hid hy
  have hgl1 : w.heap.size < w2.heap.size := by omega
  clear hy hb2 hx2 Hx Hb1 hs1
  go_wp2_with (at_make; refine wpList_make_int _ rfl (.tmp 20) (.tmp 20) rfl n rfl rfl (by omega) ?_)
  intro w3 hz hb3 hsz
  rw [tab_zero] at hz
  have Hz := Lib.hid (show IRow w3 w2.heap.size (tab n (wds (a % 32768 ^ 0 * b))) by rw [tab_ext (G := fun _ => 0) (fun j _ => by unfold wds dgt; rw [Nat.pow_zero, Nat.mod_one, Nat.zero_mul, Nat.zero_div]; rfl)]; exact hz)
  have Hb3 := Lib.hid hb3
  clear hz hb3 hsz n1 n2
  go_wp2
  go_loopw [8] (fun s8 wr => ∃ i : Nat, i ≤ lx ∧ s8 = .int .i64 (i : Int) ∧ IRow wr w2.heap.size (tab n (wds (a % 32768 ^ i * b))) ∧ Below w2.heap.size w2 wr) (fun s8 _ => lx - (intOf s8).toNat)
  case atStart => exact ⟨0, Nat.zero_le _, rfl, Hz.out, Hb3.out⟩
  case round =>
    clear Hz Hb3
    obtain ⟨i, hi, rfl, hrow, hbw⟩ := hrel
    obtain ⟨wo, rfl⟩ : ∃ wo : World, wo = wr := ⟨_, rfl⟩
    have Hrow := Lib.hid hrow
    have Hbw := Lib.hid hbw
    clear hrow hbw
    by_cases hlt : i < lx
    · obtain ⟨N, hN⟩ : ∃ N, N = a % 32768 ^ i * b := ⟨_, rfl⟩
      obtain ⟨x, hxv⟩ : ∃ x, x = dgt 32768 a i := ⟨_, rfl⟩
      have hx15 : x < 32768 := by rw [hxv]; exact dgt_lt (by decide) _ _
      have Hend := Lib.hid (mrow_end (a := a) (i := i) Hby.out n)
      have Hlow := Lib.hid (row_lt a b i ly Hby.out (B := 32768) (by decide))
      rw [← hN, ← hxv] at Hend
      rw [← hN] at Hlow
      have HN := Lib.hid hN
      have Hxv := Lib.hid hxv
      have Hrow0 := Lib.hid (show IRow wo w2.heap.size (tab n (mrow N x b i 0)) by rw [mrow_zero, hN]; exact Hrow.out)
      have t0 : (i : Int) < (lx : Int) := by omega
      clear hN hxv Hrow
      go_wp2
      go_loopw [9, 10] (fun s9 s10 wx => ∃ k c : Nat, k ≤ ly ∧ s10 = .int .i64 (k : Int) ∧ s9 = .int .i64 (c : Int) ∧ IRow wx w2.heap.size (tab n (mrow N x b i k)) ∧ c = mU 32768 N x b i k / 32768 ^ (i + k) ∧ Below w2.heap.size w2 wx) (fun _ s10 _ => ly - (intOf s10).toNat)
      case atStart => exact ⟨0, 0, Nat.zero_le _, rfl, rfl, Hrow0.out, by rw [mU_zero, Nat.add_zero, Nat.div_eq_of_lt (Nat.mod_lt _ (Nat.pow_pos (by decide)))], Hbw.out⟩
      case round =>
        clear Hrow0 Hbw
        obtain ⟨k, c, hk, rfl, rfl, hrow, hc, hbx⟩ := hrel
        have Hrow := Lib.hid hrow
        have Hbx := Lib.hid hbx
        by_cases hkg : k < ly
        · have hik : i + k < n := by have := Hn.out; omega
          have r1 := HX.out.below hbx hgl1
          have r2 := HY.out.below hbx hg2
          have e1 := r1.cell (i := i) (by rw [tab_length]; exact hlt)
          have e2 := r2.cell (i := k) (by rw [tab_length]; exact hkg)
          have e3 := hrow.cell (i := i + k) (by rw [tab_length]; exact hik)
          rw [tab_get _ hlt] at e1
          rw [tab_get _ hkg] at e2
          rw [tab_get _ hik, mrow_at] at e3
          rw [show wds a i = (x : Int) by unfold wds; rw [Hxv.out]] at e1
          have f3 := hrow.frozen (i + k)
          have d1 := dgt_lt (B := 32768) (by decide) N (i + k)
          have d2 := dgt_lt (B := 32768) (by decide) b k
          have d3 := (mul_step (B := 32768) (by decide) N b i k hx15 rfl).2.2.2
          rw [← hc] at d3
          have hst := fun (v : Nat) hv => mrow_step (N := N) (y := b) (i := i) (k := k) hx15 (v := v) hv n
          have hsc := fun (v : Nat) hv => (mul_step (B := 32768) (by decide) N b i k hx15 (v := v) hv).2.1
          rw [← hc] at hst hsc
          obtain ⟨y, hy⟩ : ∃ y, y = dgt 32768 b k := ⟨_, rfl⟩
          obtain ⟨d, hd⟩ : ∃ d, d = dgt 32768 N (i + k) := ⟨_, rfl⟩
          rw [show wds b k = (y : Int) by unfold wds; rw [hy]] at e2
          rw [← hd] at e3 d1 hst hsc
          rw [← hy] at d2 hst hsc
          have hxy : x * y ≤ 32767 * 32767 := Nat.mul_le_mul (by omega) (by omega)
          obtain ⟨z, hz⟩ : ∃ z, z = x * y := ⟨_, rfl⟩
          rw [← hz] at hxy hst hsc
          obtain ⟨v, hv⟩ : ∃ v, v = d + z + c := ⟨_, rfl⟩
          have Hst := Lib.hid (hst v hv)
          have Hsc := Lib.hid (hsc v hv)
          obtain ⟨vm, hvm⟩ : ∃ vm, vm = v % 32768 := ⟨_, rfl⟩
          obtain ⟨vd, hvd⟩ : ∃ vd, vd = v / 32768 := ⟨_, rfl⟩
          rw [← hvm] at Hst
          rw [← hvd] at Hsc
          obtain ⟨m, hm⟩ : ∃ m, m = i + k := ⟨_, rfl⟩
          rw [← hm] at e3 f3 hik Hst Hsc
          have i1 : (i : Int) + (k : Int) = (m : Int) := by omega
          have i2 : IntKind.i64.wrap (m : Int) = (m : Int) := IntWalk.i64_in _ (by omega)
          have i3 : (x : Int) * (y : Int) = (z : Int) := by rw [hz]; simp
          have i4 : IntKind.i64.wrap (z : Int) = (z : Int) := IntWalk.i64_in _ (by omega)
          have i5 : IntKind.i64.wrap ((d : Int) + (z : Int)) = (d : Int) + (z : Int) := IntWalk.i64_in _ (by omega)
          have i6 : IntKind.i64.wrap ((d : Int) + (z : Int) + (c : Int)) = (v : Int) := by rw [IntWalk.i64_in _ (by omega)]; omega
          have i6b : (d : Int) + (z : Int) + (c : Int) = (v : Int) := by omega
          have i7 : Int.tmod (v : Int) 32768 = (vm : Int) := by rw [hvm]; rfl
          have i8 : Int.tdiv (v : Int) 32768 = (vd : Int) := by rw [hvd]; rfl
          have i11 : IntKind.i64.wrap (v : Int) = (v : Int) := IntWalk.i64_in _ (by omega)
          have i9 : IntKind.i64.wrap (vm : Int) = (vm : Int) := IntWalk.i64_in _ (by omega)
          have i10 : IntKind.i64.wrap (vd : Int) = (vd : Int) := IntWalk.i64_in _ (by omega)
          have t1 : (m : Int) < (n : Int) := by omega
          have t2 : (k : Int) < (ly : Int) := by omega
          have nb1 : w2.heap.size ≠ w.heap.size := by omega
          have nb2 : w2.heap.size ≠ w1.heap.size := by omega
          have Hm := Lib.hid hm
          clear hrow hbx r1 r2 hc hst hsc hy hd hz hv hvm hvd hm d1 d2 d3 hxy
          go_wp2
          go_quiet (fail)
          go_wp2
          have Hr2 := Lib.hid (fun nq => (show IRow ((wr.drewN nq).setCell ⟨w2.heap.size, m, none⟩ (.int .i64 (vm : Int))) w2.heap.size (tab n (mrow N x b i (k + 1))) by
            have hr2 := IRow.set_ (w := wr.drewN nq) Hrow.out m (vm : Int)
            rw [tab_set, Hst.out] at hr2
            exact hr2))
          go_roundw
          case rel => exact ⟨k + 1, vd, by omega, by go_num, by go_num, Hr2.out _, by rw [Hsc.out, Hm.out]; rfl, Hbx.out.trans (Below.setCell (B := w2.heap.size) (below_drewN (Below.refl _ _) _) (by simp) _)⟩
          case measure => simp [intOf]; omega
        · have hkk : k = ly := by omega
          subst hkk
          have hil : i + k < n := by have := Hn.out; omega
          have e3 := hrow.cell (i := i + k) (by rw [tab_length]; exact hil)
          have hmr : mrow N x b i k (i + k) = 0 := by rw [mrow_at, dgt_zero Hlow.out]; rfl
          rw [tab_get _ hil, hmr] at e3
          have f3 := hrow.frozen (i + k)
          have hcl := mU_lt (B := 32768) (by decide) N b i k hx15
          have hc15 : c < 32768 := by
            rw [hc]
            rw [Nat.pow_succ] at hcl
            exact Nat.div_lt_of_lt_mul hcl
          have hend := Hend.out
          rw [← hc] at hend
          have Hend2 := Lib.hid hend
          obtain ⟨m, hm⟩ : ∃ m, m = i + k := ⟨_, rfl⟩
          rw [← hm] at e3 f3 hil Hend2
          have i1 : (i : Int) + (k : Int) = (m : Int) := by omega
          have i2 : IntKind.i64.wrap (m : Int) = (m : Int) := IntWalk.i64_in _ (by omega)
          have i3 : IntKind.i64.wrap (c : Int) = (c : Int) := IntWalk.i64_in _ (by omega)
          have t1 : (m : Int) < (n : Int) := by omega
          clear hrow hbx hc hmr hcl hend Hend hm
          go_wp2
          have hr2 := Hrow.out.set_ m (c : Int)
          rw [tab_set, Hend2.out] at hr2
          have Hr2 := Lib.hid hr2
          clear hr2
          go_roundw
          case rel => exact ⟨i + 1, by omega, by go_num, Hr2.out, Hbx.out.trans (by (repeat (first | exact Below.refl _ _ | refine Below.drew ?_ | refine Below.alloc ?_ (by first | (simp; done) | (simp; omega) | omega) _ | refine Below.setCell ?_ (by first | (simp; done) | (simp; omega) | omega) _)))⟩
          case measure => simp [intOf]; omega
    · have hii : i = lx := by omega
      subst hii
      have hat := Hrow.out.at_ (cap := n) (by rw [tab_length]; exact Nat.le_refl _)
      rw [tab_length, Nat.mod_eq_of_lt Hax.out] at hat
      have hlt2 : a * b < 32768 ^ n := by
        have := row_lt (B := 32768) a b i ly Hby.out (by decide)
        rw [Nat.mod_eq_of_lt Hax.out, ← Hn.out] at this
        exact this
      have Hlt2 := Lib.hid hlt2
      have Hb4 := Lib.hid (Hb2.out.trans (Hbw.out.mono (by omega)))
      have hs4 := Hb4.out.size
      clear Hrow hlt2
      go_wp2_with fail
      refine (bits_any _ n n (a * b) _ hat Hlt2.out (by omega)).mono ?_
      rintro e w4 ⟨A4, l4, c4, rfl, h4, ht4, hb4⟩
      have H4 := Lib.hid h4
      have Ht4 := Lib.hid ht4
      have Hb5 := Lib.hid (Hb4.out.trans (hb4.mono hs4))
      clear h4 ht4 hb4 hat
      go_wp2
      go_ret
      exact ⟨_, _, _, rfl, H4.out, Ht4.out, Hb5.out⟩
end Go.Proofs.Ytgblfpkfapmlnaa
