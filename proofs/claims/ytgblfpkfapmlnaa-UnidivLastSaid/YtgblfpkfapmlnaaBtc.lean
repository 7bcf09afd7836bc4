/- The walks of cylinderref01.words and bits. -/
import Derived.Test.YtgblfpkfapmlnaaBtb
import Derived.Deep.RegionHeld3
import Derived.Deep.RegionHeld
namespace Go.Proofs.Ytgblfpkfapmlnaa
open Go.RowKit

/-- the words of a number -/
def wds (n : Nat) (j : Nat) : Int := ((dgt 32768 n j : Nat) : Int)

set_option maxRecDepth 100000 in
set_option maxHeartbeats 4000000 in
theorem words_any (A : Option Addr) (la ca a : Nat) (w : World) (ha : I64At w A la ca (bts a)) (hma : la ≤ 1000000) :
    Calls Try.prog 108 #[.slice A la ca] w fun e w' => e = .returned (.slice (some ⟨w.heap.size, 0, none⟩) (wln 15 a) (wln 15 a)) ∧ IRow w' w.heap.size (tab (wln 15 a) (wds a)) ∧ Below w.heap.size w w' := by
  have HA := Lib.hid ha
  have hla := ha.length
  rw [bts_length] at hla
  obtain ⟨L, hL⟩ : ∃ L, L = wln 15 a := ⟨_, rfl⟩
  have hLb : L ≤ 1000000 := by rw [hL]; unfold wln; omega
  have Hw := Lib.hid (fun k (hk : k < la) => (show k / 15 < L by rw [hL]; exact bit_word (by decide) (by omega)))
  have Hfull := Lib.hid (show a % 2 ^ la = a from Nat.mod_eq_of_lt (by rw [← hla]; exact bln_lt a))
  have n1 : Int.tdiv ((la : Int) + 14) 15 = (L : Int) := by
    rw [show (la : Int) + 14 = ((la + 14 : Nat) : Int) by omega, hL]
    unfold wln
    rw [hla]
    rfl
  have n2 : IntKind.i64.wrap ((la : Int) + 14) = (la : Int) + 14 := IntWalk.i64_in _ (by omega)
  have n3 : IntKind.i64.wrap (L : Int) = (L : Int) := IntWalk.i64_in _ (by omega)
  rw [← hL]
  clear hL hla ha
  go_enter Try.func108, Try.ntmps108
  go_wp2_with (at_make; refine wpList_make_int _ rfl (.tmp 8) (.tmp 8) rfl L rfl rfl (by omega) ?_)
  intro w1 hz hb1 hsz
  rw [tab_zero] at hz
  have Hz := Lib.hid (show IRow w1 w.heap.size (tab L (wds (a % 2 ^ 0))) by rw [tab_ext (G := fun _ => 0) (fun j _ => by unfold wds dgt; rw [Nat.pow_zero, Nat.mod_one, Nat.zero_div]; rfl)]; exact hz)
  have Hb1 := Lib.hid hb1
  clear hz hb1 hsz n1 n2 n3
  go_wp2
  go_loopw [4] (fun s4 wr => ∃ k : Nat, k ≤ la ∧ s4 = .int .i64 (k : Int) ∧ IRow wr w.heap.size (tab L (wds (a % 2 ^ k))) ∧ Below w.heap.size w wr) (fun s4 _ => la - (intOf s4).toNat)
  case atStart => exact ⟨0, Nat.zero_le _, rfl, Hz.out, Hb1.out⟩
  case round =>
    clear Hz Hb1
    obtain ⟨k, hk, rfl, hrow, hbw⟩ := hrel
    have Hrow := Lib.hid hrow
    have Hbw := Lib.hid hbw
    by_cases hlt : k < la
    · obtain ⟨c1, o1, rfl, hb1, hc1⟩ := HA.out.at_ (by omega)
      have e1 := (hbw.cell (p := ⟨c1, o1 + k, none⟩) hb1).trans (hc1 k hlt)
      rw [bts_get] at e1
      have hq := Hw.out k hlt
      have e3 := hrow.cell (i := k / 15) (by rw [tab_length]; exact hq)
      rw [tab_get _ hq] at e3
      have f3 := hrow.frozen (k / 15)
      have hroom := word_room (s := 15) (by decide) a k
      have hstep := word_step (s := 15) (by decide) a k
      have hb2 := btn_lt a k
      have hr := Nat.mod_lt k (show 15 > 0 by decide)
      obtain ⟨q, hqq⟩ : ∃ q, q = k / 15 := ⟨_, rfl⟩
      obtain ⟨r, hrr⟩ : ∃ r, r = k % 15 := ⟨_, rfl⟩
      obtain ⟨b, hbb⟩ : ∃ b, b = btn a k := ⟨_, rfl⟩
      obtain ⟨x, hx⟩ : ∃ x, x = dgt 32768 (a % 2 ^ k) q := ⟨_, rfl⟩
      rw [← hqq] at e3 f3 hq
      rw [show wds (a % 2 ^ k) q = (x : Int) by unfold wds; rw [hx]] at e3
      rw [← hrr] at hr
      rw [← hbb] at e1 hb2
      rw [← hqq, ← hrr, ← hbb, show (2 : Nat) ^ 15 = 32768 from rfl, ← hx] at hroom
      obtain ⟨s, hs⟩ : ∃ s, s = b * 2 ^ r := ⟨_, rfl⟩
      rw [← hs] at hroom
      have i1 : Int.tdiv (k : Int) 15 = (q : Int) := by rw [hqq]; rfl
      have i2 : Int.tmod (k : Int) 15 = (r : Int) := by rw [hrr]; rfl
      have i3 : IntKind.i64.wrap (q : Int) = (q : Int) := IntWalk.i64_in _ (by omega)
      have i4 : IntKind.u64.wrap (r : Int) = (r : Int) := IntWalk.u64_in _ (by omega)
      have i5 : (b : Int) * 2 ^ r = (s : Int) := by rw [hs]; simp
      have i6 : IntKind.i64.wrap (s : Int) = (s : Int) := IntWalk.i64_in _ (by omega)
      have i7 : IntKind.i64.wrap ((x : Int) + (s : Int)) = ((x + s : Nat) : Int) := by rw [IntWalk.i64_in _ (by omega)]; omega
      have i7b : (x : Int) + (s : Int) = ((x + s : Nat) : Int) := by omega
      obtain ⟨y, hy⟩ : ∃ y, y = x + s := ⟨_, rfl⟩
      rw [← hy] at i7 i7b
      have t1 : (k : Int) < (la : Int) := by omega
      have t2 : (q : Int) < (L : Int) := by omega
      have nb1 : w.heap.size ≠ c1 := by omega
      have Hset := Lib.hid (show tab L (fun t => if t = q then (y : Int) else wds (a % 2 ^ k) t) = tab L (wds (a % 2 ^ (k + 1))) from tab_ext fun j _ => by
        unfold wds
        rw [show (32768 : Nat) = 2 ^ 15 from rfl, hstep j, ← hqq]
        by_cases h : j = q
        · rw [if_pos h, if_pos h, h, show (2 : Nat) ^ 15 = 32768 from rfl, ← hx, ← hbb, ← hrr, ← hs, ← hy]
        · rw [if_neg h, if_neg h])
      clear hrow hbw hc1 hb1 hstep hqq hrr hbb hx hs hy
      go_wp2_with fail
      refine wp_region_last (S := fun w' => w'.cell? ⟨c1, o1 + k, none⟩ = some (.int .i64 b) ∧ w'.cell? ⟨w.heap.size, q, none⟩ = some (.int .i64 x)) (by kernel_rfl) (by kernel_rfl) (by (try dsimp only); refine ⟨?_, ?_⟩ <;> go_simp) (fun hHeld => ?_)
      simp only [List.pop_toArray, List.dropLast]
      (refine take_at (i := 0) (oi := _) (v := ?_) rfl rfl (by kernel_rfl) (by kernel_rfl) (by kernel_rfl) (fun _ _ _ h => h) (Or.inl ⟨by rfl, ?_⟩) (by assumption) ?_; rotate_left; (focus (intro w hSw; (try dsimp only at hSw); go_simp; (try with_reducible rfl))); (simp only [put_lit, List.set]))
      (refine take_at (i := 1) (oi := _) (v := ?_) rfl rfl (by kernel_rfl) (by kernel_rfl) (by kernel_rfl) (fun _ _ _ h => h) (Or.inl ⟨by rfl, ?_⟩) (by assumption) ?_; rotate_left; (focus (intro w hSw; (try dsimp only at hSw); go_simp; (try with_reducible rfl))); (simp only [put_lit, List.set]))
      (refine take_at (i := 2) (oi := _) (v := ?_) rfl rfl (by kernel_rfl) (by kernel_rfl) (by kernel_rfl) (fun _ _ _ h => h) (Or.inl ⟨by rfl, ?_⟩) (by assumption) ?_; rotate_left; (focus (intro w hSw; (try dsimp only at hSw); go_simp; (try with_reducible rfl))); (simp only [put_lit, List.set]))
      (refine take_at (i := 3) (oi := _) (v := ?_) rfl rfl (by kernel_rfl) (by kernel_rfl) (by kernel_rfl) (fun _ _ _ h => h) (Or.inl ⟨by rfl, ?_⟩) (by assumption) ?_; rotate_left; (focus (intro w hSw; (try dsimp only at hSw); go_simp; (try with_reducible rfl))); (simp only [put_lit, List.set]))
      (refine take_at (i := 4) (oi := _) (v := ?_) rfl rfl (by kernel_rfl) (by kernel_rfl) (by kernel_rfl) (fun _ _ _ h => h) (Or.inl ⟨by rfl, ?_⟩) (by assumption) ?_; rotate_left; (focus (intro w hSw; (try dsimp only at hSw); go_simp; (try with_reducible rfl))); (simp only [put_lit, List.set]))
      (refine take_at (i := 5) (oi := _) (v := ?_) rfl rfl (by kernel_rfl) (by kernel_rfl) (by kernel_rfl) (fun _ _ _ h => h) (Or.inl ⟨by rfl, ?_⟩) (by assumption) ?_; rotate_left; (focus (intro w hSw; (try dsimp only at hSw); go_simp; (try with_reducible rfl))); (simp only [put_lit, List.set]))
      (refine take_at (i := 6) (oi := _) (v := ?_) rfl rfl (by kernel_rfl) (by kernel_rfl) (by kernel_rfl) (fun _ _ _ h => h) (Or.inl ⟨by rfl, ?_⟩) (by assumption) ?_; rotate_left; (focus (intro w hSw; (try dsimp only at hSw); go_simp; (try with_reducible rfl))); (simp only [put_lit, List.set]))
      (refine take_at (i := 7) (oi := _) (v := ?_) rfl rfl (by kernel_rfl) (by kernel_rfl) (by kernel_rfl) (fun _ _ _ h => h) (Or.inl ⟨by rfl, ?_⟩) (by assumption) ?_; rotate_left; (focus (intro w hSw; (try dsimp only at hSw); go_simp; (try with_reducible rfl))); (simp only [put_lit, List.set]))
      (refine take_at (i := 8) (oi := _) (v := ?_) rfl rfl (by kernel_rfl) (by kernel_rfl) (by kernel_rfl) (fun _ _ _ h => h) (Or.inl ⟨by rfl, ?_⟩) (by assumption) ?_; rotate_left; (focus (intro w hSw; (try dsimp only at hSw); go_simp; (try with_reducible rfl))); (simp only [put_lit, List.set]))
      (refine take_at (i := 9) (oi := _) (v := ?_) rfl rfl (by kernel_rfl) (by kernel_rfl) (by kernel_rfl) (fun _ _ _ h => h) (Or.inl ⟨by rfl, ?_⟩) (by assumption) ?_; rotate_left; (focus (intro w hSw; (try dsimp only at hSw); go_simp; (try with_reducible rfl))); (simp only [put_lit, List.set]))
      (refine take_at (i := 10) (oi := _) (v := ?_) rfl rfl (by kernel_rfl) (by kernel_rfl) (by kernel_rfl) (fun _ _ _ h => h) (Or.inl ⟨by rfl, ?_⟩) (by assumption) ?_; rotate_left; (focus (intro w hSw; (try dsimp only at hSw); go_simp; (try with_reducible rfl))); (simp only [put_lit, List.set]))
      (refine take_at (i := 11) (oi := _) (v := ?_) rfl rfl (by kernel_rfl) (by kernel_rfl) (by kernel_rfl) (fun _ _ _ h => h) (Or.inl ⟨by rfl, ?_⟩) (by assumption) ?_; rotate_left; (focus (intro w hSw; (try dsimp only at hSw); go_simp; (try with_reducible rfl))); (simp only [put_lit, List.set]))
      (refine take_at (i := 12) (oi := _) (v := ?_) rfl rfl (by kernel_rfl) (by kernel_rfl) (by kernel_rfl) (fun _ _ _ h => h) (Or.inl ⟨by rfl, ?_⟩) (by assumption) ?_; rotate_left; (focus (intro w hSw; (try dsimp only at hSw); go_simp; (try with_reducible rfl))); (simp only [put_lit, List.set]))
      (refine take_at (i := 13) (oi := _) (v := ?_) rfl rfl (by kernel_rfl) (by kernel_rfl) (by kernel_rfl) (fun _ _ _ h => h) (Or.inl ⟨by rfl, ?_⟩) (by assumption) ?_; rotate_left; (focus (intro w hSw; (try dsimp only at hSw); go_simp; (try with_reducible rfl))); (simp only [put_lit, List.set]))
      (refine take_at (i := 14) (oi := _) (v := ?_) rfl rfl (by kernel_rfl) (by kernel_rfl) (by kernel_rfl) (fun _ _ _ h => h) (Or.inl ⟨by rfl, ?_⟩) (by assumption) ?_; rotate_left; (focus (intro w hSw; (try dsimp only at hSw); go_simp; (try with_reducible rfl))); (simp only [put_lit, List.set]))
      refine wpAnyH_done (by kernel_rfl) (lastQ_list rfl ?_) _
      clear hHeld
      go_wp2_with fail
      have hr2 := Hrow.out.drew.set_ q (y : Int)
      rw [tab_set, Hset.out] at hr2
      have Hr2 := Lib.hid hr2
      clear hr2
      go_roundw
      case rel => exact ⟨k + 1, by omega, by go_num, Hr2.out, Hbw.out.trans (by (repeat (first | exact Below.refl _ _ | refine Below.drew ?_ | refine Below.alloc ?_ (by first | (simp; done) | (simp; omega) | omega) _ | refine Below.setCell ?_ (by first | (simp; done) | (simp; omega) | omega) _)))⟩
      case measure => simp [intOf]; omega
    · have hkl : k = la := by omega
      subst hkl
      rw [Hfull.out] at hrow
      have Hfin := Lib.hid hrow
      clear hrow Hrow hbw
      go_wp2
      go_ret
      exact ⟨rfl, Hfin.out, Hbw.out⟩

set_option maxRecDepth 100000 in
set_option maxHeartbeats 4000000 in
theorem bits_any (A : Option Addr) (len cap n : Nat) (w : World) (h : I64At w A len cap (tab len (wds n))) (hn : n < 32768 ^ len) (hm : len ≤ 60000) :
    Calls Try.prog 109 #[.slice A len cap] w fun e w' => ∃ A' l' c', e = .returned (.slice A' l' c') ∧ I64At w' A' l' c' (bts n) ∧ Typ w' A' l' ∧ Below w.heap.size w w' := by
  have HA := Lib.hid h
  obtain ⟨N, hN⟩ : ∃ N, N = 15 * len := ⟨_, rfl⟩
  have Hlt := Lib.hid (show n < 2 ^ N by rw [hN, Nat.pow_mul]; exact hn)
  have n1 : (15 : Int) * (len : Int) = (N : Int) := by omega
  have n2 : IntKind.i64.wrap (N : Int) = (N : Int) := IntWalk.i64_in _ (by omega)
  have hNb : N ≤ 900000 := by omega
  have Hw := Lib.hid (fun k (hk : k < N) => (show k / 15 < len by omega))
  clear hN h hn
  go_enter Try.func109, Try.ntmps109
  go_wp2_with (at_make; refine wpList_make_int _ rfl (.tmp 7) (.tmp 7) rfl N rfl rfl (by omega) ?_)
  intro w1 hz hb1 hsz
  rw [tab_zero] at hz
  have Hz := Lib.hid (show IRow w1 w.heap.size (tab N (fun j => if j < 0 then (btn n j : Int) else 0)) by rw [tab_ext (G := fun _ => 0) (fun j _ => by rw [if_neg (by omega)])]; exact hz)
  have Hb1 := Lib.hid hb1
  clear hz hb1 hsz n1 n2
  go_wp2
  go_loopw [4] (fun s4 wr => ∃ k : Nat, k ≤ N ∧ s4 = .int .i64 (k : Int) ∧ IRow wr w.heap.size (tab N (fun j => if j < k then (btn n j : Int) else 0)) ∧ Below w.heap.size w wr) (fun s4 _ => N - (intOf s4).toNat)
  case atStart => exact ⟨0, Nat.zero_le _, rfl, Hz.out, Hb1.out⟩
  case round =>
    clear Hz Hb1
    obtain ⟨k, hk, rfl, hrow, hbw⟩ := hrel
    have Hrow := Lib.hid hrow
    have Hbw := Lib.hid hbw
    by_cases hlt : k < N
    · obtain ⟨c1, o1, rfl, hb1, hc1⟩ := HA.out.at_ (by have := Hw.out k hlt; omega)
      have hq := Hw.out k hlt
      have e1 := (hbw.cell (p := ⟨c1, o1 + k / 15, none⟩) hb1).trans (hc1 (k / 15) hq)
      rw [tab_get _ hq] at e1
      have e3 := hrow.cell (i := k) (by rw [tab_length]; exact hlt)
      have f3 := hrow.frozen k
      have hbit := bit_of (s := 15) (by decide) n k
      have hr := Nat.mod_lt k (show 15 > 0 by decide)
      have hx2 := dgt_lt (B := 32768) (by decide) n (k / 15)
      obtain ⟨q, hqq⟩ : ∃ q, q = k / 15 := ⟨_, rfl⟩
      obtain ⟨r, hrr⟩ : ∃ r, r = k % 15 := ⟨_, rfl⟩
      obtain ⟨x, hx⟩ : ∃ x, x = dgt 32768 n q := ⟨_, rfl⟩
      rw [← hqq] at e1 hq hx2
      rw [show wds n q = (x : Int) by unfold wds; rw [hx]] at e1
      rw [← hx] at hx2
      rw [← hrr] at hr
      rw [← hqq, ← hrr, show (2 : Nat) ^ 15 = 32768 from rfl, ← hx] at hbit
      obtain ⟨s, hs⟩ : ∃ s, s = x / 2 ^ r := ⟨_, rfl⟩
      have hsx : s ≤ x := by rw [hs]; exact Nat.div_le_self _ _
      obtain ⟨b, hbb⟩ : ∃ b, b = btn n k := ⟨_, rfl⟩
      rw [← hs, ← hbb] at hbit
      have i1 : Int.tdiv (k : Int) 15 = (q : Int) := by rw [hqq]; rfl
      have i2 : Int.tmod (k : Int) 15 = (r : Int) := by rw [hrr]; rfl
      have i3 : IntKind.i64.wrap (q : Int) = (q : Int) := IntWalk.i64_in _ (by omega)
      have i4 : IntKind.u64.wrap (r : Int) = (r : Int) := IntWalk.u64_in _ (by omega)
      have i5 : (x : Int) / 2 ^ r = (s : Int) := by rw [hs]; simp
      have i6 : IntKind.i64.wrap (s : Int) = (s : Int) := IntWalk.i64_in _ (by omega)
      have i7 : Int.tmod (s : Int) 2 = (b : Int) := by rw [← hbit]; rfl
      have t1 : (k : Int) < (N : Int) := by omega
      have t2 : (q : Int) < (len : Int) := by omega
      have nb1 : w.heap.size ≠ c1 := by omega
      have Hset := Lib.hid (show tab N (fun t => if t = k then (b : Int) else if t < k then (btn n t : Int) else 0) = tab N (fun t => if t < k + 1 then (btn n t : Int) else 0) from tab_ext fun j _ => by
        by_cases h : j = k
        · rw [if_pos h, if_pos (by omega), h, hbb]
        · rw [if_neg h]
          by_cases h2 : j < k
          · rw [if_pos h2, if_pos (by omega)]
          · rw [if_neg h2, if_neg (by omega)])
      clear hrow hbw hc1 hb1 hqq hrr hbb hx hs hbit
      go_wp2_with fail
      have hr2 := Hrow.out.set_ k (b : Int)
      rw [tab_set, Hset.out] at hr2
      have Hr2 := Lib.hid hr2
      clear hr2
      go_roundw
      case rel => exact ⟨k + 1, by omega, by go_num, Hr2.out, Hbw.out.trans (by (repeat (first | exact Below.refl _ _ | refine Below.drew ?_ | refine Below.alloc ?_ (by first | (simp; done) | (simp; omega) | omega) _ | refine Below.setCell ?_ (by first | (simp; done) | (simp; omega) | omega) _)))⟩
      case measure => simp [intOf]; omega
    · have hkl : k = N := by omega
      have hres : ptrim (tab N (fun j => if j < k then (btn n j : Int) else 0)) = bts n := trim_bts (fun j hj => by
        rw [tab_length] at hj
        rw [tab_get _ hj, if_pos (by omega)]) (by rw [tab_length]; exact Hlt.out)
      obtain ⟨Q, hQ⟩ : ∃ Q, Q = tab N (fun j => if j < k then (btn n j : Int) else 0) := ⟨_, rfl⟩
      have hQl : Q.length = N := by rw [hQ, tab_length]
      rw [← hQ] at hrow hres
      have hat := hrow.at_ (cap := N) (by omega)
      rw [hQl] at hat
      have Hty := Lib.hid (show Typ wr (some ⟨w.heap.size, 0, none⟩) (plen Q) from .inr ⟨_, _, _, rfl, hrow⟩)
      have Hat := Lib.hid hat
      have Hres := Lib.hid hres
      have hpl : plen Q ≤ N := by have := plen_le Q; omega
      clear hrow Hrow hbw hQ hQl hres hkl
      go_wp2_with fail
      refine (btrim_any _ _ _ _ _ hat (by omega)).mono ?_
      rintro e w2 ⟨rfl, rfl⟩
      have hfin := hat.take hpl
      have Hfin := Lib.hid (show I64At wr (some ⟨w.heap.size, 0, none⟩) (plen Q) N (bts n) by rw [← Hres.out]; exact hfin)
      clear hfin hat
      go_wp2
      go_ret
      exact ⟨_, _, _, rfl, Hfin.out, Hty.out, Hbw.out⟩
end Go.Proofs.Ytgblfpkfapmlnaa
