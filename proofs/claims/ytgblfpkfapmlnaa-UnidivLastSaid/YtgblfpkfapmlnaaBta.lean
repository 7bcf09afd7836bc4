/- The walks of cylinderref01.Trim, bit, Add, Sub, Cmp. -/
import Derived.Test.YtgblfpkfapmlnaaBtp
import Derived.Test.YtgblfpkfapmlnaaIrow
namespace Go.Proofs.Ytgblfpkfapmlnaa
open Go.RowKit

set_option maxRecDepth 100000 in
set_option maxHeartbeats 1000000 in
theorem btrim_any (A : Option Addr) (len cap : Nat) (p : List Int) (w : World) (h : I64At w A len cap p) (hm : len ≤ 1099511627776) :
    Calls Try.prog 92 #[.slice A len cap] w fun e w' => e = .returned (.slice A (plen p) cap) ∧ w = w' := by
  have htl : plen p ≤ len := by have := plen_le p; have := h.length; omega
  have hcap := h.cap
  go_enter Try.func92, Try.ntmps92
  go_wp2
  go_loop [3] (fun n => ∃ k : Nat, k ≤ len ∧ plen p ≤ k ∧ n = .int .i64 k) (fun n => (intOf n).toNat)
  case atStart => exact ⟨len, by omega, by omega, rfl⟩
  case round =>
    obtain ⟨k, hk, ht, rfl⟩ := hrel
    cases k with
    | zero =>
      have H0 := Lib.hid (show plen p = 0 by omega)
      clear h ht htl
      go_wp2
      go_ret
      exact ⟨by rw [H0.out]; rfl, rfl⟩
    | succ k =>
      obtain ⟨b, off, rfl, hb, hc⟩ := h.at_ (by omega)
      have e0 := hc k (by omega)
      have hpr := Lib.hid (plen_pred p k ht)
      have heq := Lib.hid (plen_eq p k ht)
      obtain ⟨x, hx⟩ : ∃ x, x = p.getD k 0 := ⟨_, rfl⟩
      rw [← hx] at e0
      have Hx := Lib.hid hx
      clear hc h hx ht htl
      have i1 : IntKind.i64.wrap ((k + 1 : Nat) - 1 : Int) = (k : Int) := by rw [IntWalk.i64_in _ (by omega)]; omega
      by_cases h0 : x = 0
      · subst h0
        go_wp2
        go_round
        case rel => exact ⟨k, by omega, hpr.out Hx.out.symm, by go_num⟩
        case measure => simp [intOf]
      · have hb0 : (x == 0) = false := by rw [beq_eq_false_iff_ne]; exact h0
        have H1 := Lib.hid (heq.out (by rw [← Hx.out]; exact h0))
        clear h0
        go_wp2
        go_ret
        exact ⟨by rw [H1.out]; rfl, rfl⟩

set_option maxRecDepth 100000 in
set_option maxHeartbeats 1000000 in
theorem bit_any (A : Option Addr) (len cap : Nat) (p : List Int) (i : Nat) (w : World) (h : I64At w A len cap p) (hm : len ≤ 1099511627776) (hi : i ≤ 1099511627776) :
    Calls Try.prog 110 #[.slice A len cap, .int .i64 (i : Int)] w fun e w' => e = .returned (.int .i64 (p.getD i 0)) ∧ w = w' := by
  have hl := h.length
  by_cases hlt : i < len
  · obtain ⟨b, off, rfl, hb, hc⟩ := h.at_ (by omega)
    have e0 := hc i hlt
    have t1 : (i : Int) < (len : Int) := by omega
    obtain ⟨x, hx⟩ : ∃ x, x = p.getD i 0 := ⟨_, rfl⟩
    rw [← hx] at e0 ⊢
    clear hc hx h hb
    go_enter Try.func110, Try.ntmps110
    go_wp2
    go_ret
    exact ⟨rfl, rfl⟩
  · have t1 : ¬ (i : Int) < (len : Int) := by omega
    have hx : p.getD i 0 = 0 := by rw [List.getD_eq_getElem?_getD, List.getElem?_eq_none (by omega)]; rfl
    rw [hx]
    clear h hx
    go_enter Try.func110, Try.ntmps110
    go_wp2
    go_ret
    exact ⟨rfl, rfl⟩

theorem OwnI.at_take {e : TypeId} {w : World} {base k : Nat} {v : Value} {p : List Int} (h : OwnI e w base v k p) (hk : k ≤ p.length) : ∃ A cap, v = .slice A k cap ∧ I64At w A k cap (p.take k) := by
  have h2 : OwnI e w base v (p.take k).length (p.take k) := by
    have hl : (p.take k).length = k := by rw [List.length_take]; omega
    rw [hl]
    unfold OwnI at h ⊢
    rw [List.map_take, List.take_take, Nat.min_self]
    exact h
  obtain ⟨A, cap, h3, h4⟩ := h2.at_
  have hl : (p.take k).length = k := by rw [List.length_take]; omega
  rw [hl] at h3 h4
  exact ⟨A, cap, h3, h4⟩
/-- the first bits of a number -/
def tabQ (n m : Nat) : List Int := (List.range m).map fun j => ((btn n j : Nat) : Int)
theorem tabQ_length (n m : Nat) : (tabQ n m).length = m := by simp [tabQ]
theorem tabQ_get (n m : Nat) {k : Nat} (h : k < m) : (tabQ n m)[k]?.getD 0 = ((btn n k : Nat) : Int) := by simp [tabQ, h]
theorem tabQ_bts {n m k : Nat} (hk : k ≤ m) (hn : n < 2 ^ k) : ptrim ((tabQ n m).take k) = bts n := by
  have hl : ((tabQ n m).take k).length = k := by rw [List.length_take, tabQ_length]; omega
  refine trim_bts (fun j hj => ?_) (by rw [hl]; exact hn)
  rw [hl] at hj
  rw [List.getD_eq_getElem?_getD, List.getElem?_take_of_lt hj]
  exact tabQ_get n m (by omega)
/-- the bits lie in a row of ints -/
def Typ (w : World) (A : Option Addr) (l : Nat) : Prop := l = 0 ∨ ∃ b off cs, A = some ⟨b, off, none⟩ ∧ Blk w b 3 cs
theorem Typ.le {w : World} {A : Option Addr} {l k : Nat} (h : Typ w A l) (hk : k ≤ l) : Typ w A k := by
  rcases h with h | h
  · exact .inl (by omega)
  · exact .inr h
theorem Typ.below {w w' : World} {A : Option Addr} {l : Nat} (h : Typ w A l) (hb : Below w.heap.size w w') : Typ w' A l := by
  rcases h with h | ⟨b, off, cs, hA, hk⟩
  · exact .inl h
  · exact .inr ⟨b, off, cs, hA, Blk.below hk hb (Blk.lt hk)⟩
theorem own_typ {w : World} {base n : Nat} {A : Option Addr} {l c : Nat} {p : List Int} (h : OwnI 3 w base (.slice A l c) n p) : Typ w A l := by
  obtain ⟨_, ⟨h1, _⟩ | ⟨g, cap, cur, h1, _, hg, _⟩⟩ := h
  · cases h1; exact .inl rfl
  · cases h1; exact .inr ⟨g, 0, cur, rfl, hg⟩
theorem plen_bts {p : List Int} {n : Nat} (h : ptrim p = bts n) : plen p = bln n := by
  have := congrArg List.length h
  rw [ptrim_length, bts_length] at this
  exact this

set_option maxRecDepth 100000 in
set_option maxHeartbeats 4000000 in
theorem badd_any (A : Option Addr) (la ca a : Nat) (B : Option Addr) (lb cb b : Nat) (w : World) (ha : I64At w A la ca (bts a)) (hb : I64At w B lb cb (bts b)) (hma : la ≤ 1000000) (hmb : lb ≤ 1000000) :
    Calls Try.prog 95 #[.slice A la ca, .slice B lb cb] w fun e w' => ∃ A' l' c', e = .returned (.slice A' l' c') ∧ I64At w' A' l' c' (bts (a + b)) ∧ Typ w' A' l' ∧ Below w.heap.size w w' := by
  obtain ⟨i0, hi, hz0, hz1, hz2⟩ := info_parts info_int64
  have HA := Lib.hid ha
  have HB := Lib.hid hb
  have hla := ha.length
  have hlb := hb.length
  rw [bts_length] at hla hlb
  obtain ⟨M, hM⟩ : ∃ M, M = max la lb := ⟨_, rfl⟩
  have a1 : a < 2 ^ M := Nat.lt_of_lt_of_le (bln_lt a) (Nat.pow_le_pow_right (by decide) (by omega))
  have b1 : b < 2 ^ M := Nat.lt_of_lt_of_le (bln_lt b) (Nat.pow_le_pow_right (by decide) (by omega))
  have Hcz : Hid (∀ k, M ≤ k → a % 2 ^ k = a ∧ b % 2 ^ k = b) := Lib.hid (fun k hk => ⟨Nat.mod_eq_of_lt (Nat.lt_of_lt_of_le a1 (Nat.pow_le_pow_right (by decide) hk)), Nat.mod_eq_of_lt (Nat.lt_of_lt_of_le b1 (Nat.pow_le_pow_right (by decide) hk))⟩)
  have Hc0 : Hid ((a % 2 ^ (M + 1) + b % 2 ^ (M + 1)) / 2 ^ (M + 1) = 0) := Lib.hid (by
    rw [(Hcz.out (M + 1) (by omega)).1, (Hcz.out (M + 1) (by omega)).2]
    exact Nat.div_eq_of_lt (by rw [Nat.pow_succ]; omega))
  obtain ⟨Q, hQ0⟩ : ∃ Q, Q = tabQ (a + b) (M + 1) := ⟨_, rfl⟩
  have hQ := Lib.hid hQ0
  have hQl := Lib.hid (show Q.length = M + 1 by rw [hQ0, tabQ_length])
  have laM : la ≤ M := by omega
  have lbM : lb ≤ M := by omega
  have hMb : M ≤ 1000000 := by omega
  have hM3 : M = la ∨ M = lb := by omega
  clear hQ0 hM hla hlb a1 b1 ha hb
  go_enter Try.func95, Try.ntmps95
  go_wp2
  go_loopw [5, 6, 7] (fun s5 s6 s7 wr => ∃ k c : Nat, k ≤ M + 1 ∧ s6 = .int .i64 (c : Int) ∧ s7 = .int .i64 (k : Int) ∧ OwnI 3 wr w.heap.size s5 k Q ∧ Below w.heap.size w wr ∧ c = (a % 2 ^ k + b % 2 ^ k) / 2 ^ k) (fun _ _ s7 _ => M + 1 - (intOf s7).toNat)
  case atStart => exact ⟨0, 0, Nat.zero_le _, rfl, rfl, World.ownsRow_nil _ _ _ _, Below.refl _ _, by simp [Nat.mod_one]⟩
  case round =>
    obtain ⟨k, c, hk, rfl, rfl, hown, hbw, hcc⟩ := hrel
    have Hown := Lib.hid hown
    have Hbw := Lib.hid hbw
    have Hcc := Lib.hid hcc
    clear hown hbw hcc
    by_cases h1 : k < la
    · have t1 : (k : Int) < (la : Int) := by omega
      have hkM : k < M + 1 := by omega
      have xa := btn_lt a k
      have xb := btn_lt b k
      obtain ⟨p1, hp1⟩ : ∃ x, x = btn a k := ⟨_, rfl⟩
      obtain ⟨p2, hp2⟩ : ∃ x, x = btn b k := ⟨_, rfl⟩
      have hst := add_step a b k
      rw [← Hcc.out] at hst
      obtain ⟨st1, st2, st3⟩ := hst
      rw [← hp1, ← hp2] at st1 st2
      obtain ⟨s, hs⟩ : ∃ s, s = p1 + p2 + c := ⟨_, rfl⟩
      rw [← hs] at st1 st2
      obtain ⟨o, ho⟩ : ∃ o, o = s % 2 := ⟨_, rfl⟩
      obtain ⟨c2, hc2⟩ : ∃ c2, c2 = s / 2 := ⟨_, rfl⟩
      rw [← ho] at st1
      rw [← hc2] at st2
      have ob : o < 2 := by rw [ho]; exact Nat.mod_lt _ (by decide)
      rw [← hp1] at xa
      rw [← hp2] at xb
      have s1 : IntKind.i64.wrap ((p1 : Int) + (p2 : Int)) = (p1 : Int) + (p2 : Int) := IntWalk.i64_in _ (by omega)
      have s2 : IntKind.i64.wrap ((p1 : Int) + (p2 : Int) + (c : Int)) = (s : Int) := by rw [IntWalk.i64_in _ (by omega)]; omega
      have s2' : (p1 : Int) + (p2 : Int) + (c : Int) = (s : Int) := by omega
      have s3 : IntKind.i64.wrap (s : Int) = (s : Int) := IntWalk.i64_in _ (by omega)
      have s4 : Int.tmod (s : Int) 2 = (o : Int) := by rw [ho]; rfl
      have s5 : Int.tdiv (s : Int) 2 = (c2 : Int) := by rw [hc2]; rfl
      have s6 : IntKind.i64.wrap (o : Int) = (o : Int) := IntWalk.i64_in _ (by omega)
      have s7 : IntKind.i64.wrap (c2 : Int) = (c2 : Int) := IntWalk.i64_in _ (by omega)
      have Hg := Lib.hid (show Q[k]?.getD 0 = (o : Int) by rw [hQ.out, tabQ_get _ _ (by omega), st1])
      have P1 := Lib.hid hp1
      have P2 := Lib.hid hp2
      have C2 := Lib.hid st2
      clear hp1 hp2 hs ho hc2 st1 st2 xa xb
      go_wp2_with fail
      refine (bit_any _ _ _ (bts a) k _ (HA.out.below Hbw.out) (by omega) (by omega)).mono ?_
      rintro e w1 ⟨rfl, rfl⟩
      rw [bts_get, ← P1.out]
      go_wp2_with fail
      refine (bit_any _ _ _ (bts b) k _ (HB.out.below Hbw.out) (by omega) (by omega)).mono ?_
      rintro e w1 ⟨rfl, rfl⟩
      rw [bts_get, ← P2.out]
      go_wp2_with (at_builtin; refine wpList_append_one rfl (.tmp 34) (.tmp 37) 43 rfl w.heap.size 3 i0 (.int .i64 0) 8 Try.underlying43 hi hz0 hz1 hz2 rfl _ (.int .i64 o) k _ rfl rfl Hown.out rfl (by omega) (by omega) Hbw.out.size ?_)
      intro v' w1 hown' hgrow
      have R := Lib.hid (OwnI.step (v' := v') (by rw [hQl.out]; omega) Hbw.out.size Hown.out Hbw.out (by rw [Hg.out]; exact hown') hgrow)
      clear hown' hgrow
      go_wp2
      go_roundw
      case rel => exact ⟨k + 1, c2, by omega, by go_num, by go_num, R.out.1, R.out.2, C2.out⟩
      case measure => simp [intOf]; omega
    by_cases h2 : k < lb
    · have t1 : ¬ (k : Int) < (la : Int) := by omega
      have t2 : (k : Int) < (lb : Int) := by omega
      have hkM : k < M + 1 := by omega
      have xa := btn_lt a k
      have xb := btn_lt b k
      obtain ⟨p1, hp1⟩ : ∃ x, x = btn a k := ⟨_, rfl⟩
      obtain ⟨p2, hp2⟩ : ∃ x, x = btn b k := ⟨_, rfl⟩
      have hst := add_step a b k
      rw [← Hcc.out] at hst
      obtain ⟨st1, st2, st3⟩ := hst
      rw [← hp1, ← hp2] at st1 st2
      obtain ⟨s, hs⟩ : ∃ s, s = p1 + p2 + c := ⟨_, rfl⟩
      rw [← hs] at st1 st2
      obtain ⟨o, ho⟩ : ∃ o, o = s % 2 := ⟨_, rfl⟩
      obtain ⟨c2, hc2⟩ : ∃ c2, c2 = s / 2 := ⟨_, rfl⟩
      rw [← ho] at st1
      rw [← hc2] at st2
      have ob : o < 2 := by rw [ho]; exact Nat.mod_lt _ (by decide)
      rw [← hp1] at xa
      rw [← hp2] at xb
      have s1 : IntKind.i64.wrap ((p1 : Int) + (p2 : Int)) = (p1 : Int) + (p2 : Int) := IntWalk.i64_in _ (by omega)
      have s2 : IntKind.i64.wrap ((p1 : Int) + (p2 : Int) + (c : Int)) = (s : Int) := by rw [IntWalk.i64_in _ (by omega)]; omega
      have s2' : (p1 : Int) + (p2 : Int) + (c : Int) = (s : Int) := by omega
      have s3 : IntKind.i64.wrap (s : Int) = (s : Int) := IntWalk.i64_in _ (by omega)
      have s4 : Int.tmod (s : Int) 2 = (o : Int) := by rw [ho]; rfl
      have s5 : Int.tdiv (s : Int) 2 = (c2 : Int) := by rw [hc2]; rfl
      have s6 : IntKind.i64.wrap (o : Int) = (o : Int) := IntWalk.i64_in _ (by omega)
      have s7 : IntKind.i64.wrap (c2 : Int) = (c2 : Int) := IntWalk.i64_in _ (by omega)
      have Hg := Lib.hid (show Q[k]?.getD 0 = (o : Int) by rw [hQ.out, tabQ_get _ _ (by omega), st1])
      have P1 := Lib.hid hp1
      have P2 := Lib.hid hp2
      have C2 := Lib.hid st2
      clear hp1 hp2 hs ho hc2 st1 st2 xa xb
      go_wp2_with fail
      refine (bit_any _ _ _ (bts a) k _ (HA.out.below Hbw.out) (by omega) (by omega)).mono ?_
      rintro e w1 ⟨rfl, rfl⟩
      rw [bts_get, ← P1.out]
      go_wp2_with fail
      refine (bit_any _ _ _ (bts b) k _ (HB.out.below Hbw.out) (by omega) (by omega)).mono ?_
      rintro e w1 ⟨rfl, rfl⟩
      rw [bts_get, ← P2.out]
      go_wp2_with (at_builtin; refine wpList_append_one rfl (.tmp 34) (.tmp 37) 43 rfl w.heap.size 3 i0 (.int .i64 0) 8 Try.underlying43 hi hz0 hz1 hz2 rfl _ (.int .i64 o) k _ rfl rfl Hown.out rfl (by omega) (by omega) Hbw.out.size ?_)
      intro v' w1 hown' hgrow
      have R := Lib.hid (OwnI.step (v' := v') (by rw [hQl.out]; omega) Hbw.out.size Hown.out Hbw.out (by rw [Hg.out]; exact hown') hgrow)
      clear hown' hgrow
      go_wp2
      go_roundw
      case rel => exact ⟨k + 1, c2, by omega, by go_num, by go_num, R.out.1, R.out.2, C2.out⟩
      case measure => simp [intOf]; omega
    by_cases h3 : 0 < c
    · have t1 : ¬ (k : Int) < (la : Int) := by omega
      have t2 : ¬ (k : Int) < (lb : Int) := by omega
      have t3 : (0 : Int) < (c : Int) := by omega
      have hkM : k < M + 1 := by
        refine Classical.byContradiction fun hn => ?_
        have e : k = M + 1 := by omega
        have hcc := Hcc.out
        rw [e, Hc0.out] at hcc
        omega
      have xa := btn_lt a k
      have xb := btn_lt b k
      obtain ⟨p1, hp1⟩ : ∃ x, x = btn a k := ⟨_, rfl⟩
      obtain ⟨p2, hp2⟩ : ∃ x, x = btn b k := ⟨_, rfl⟩
      have hst := add_step a b k
      rw [← Hcc.out] at hst
      obtain ⟨st1, st2, st3⟩ := hst
      rw [← hp1, ← hp2] at st1 st2
      obtain ⟨s, hs⟩ : ∃ s, s = p1 + p2 + c := ⟨_, rfl⟩
      rw [← hs] at st1 st2
      obtain ⟨o, ho⟩ : ∃ o, o = s % 2 := ⟨_, rfl⟩
      obtain ⟨c2, hc2⟩ : ∃ c2, c2 = s / 2 := ⟨_, rfl⟩
      rw [← ho] at st1
      rw [← hc2] at st2
      have ob : o < 2 := by rw [ho]; exact Nat.mod_lt _ (by decide)
      rw [← hp1] at xa
      rw [← hp2] at xb
      have s1 : IntKind.i64.wrap ((p1 : Int) + (p2 : Int)) = (p1 : Int) + (p2 : Int) := IntWalk.i64_in _ (by omega)
      have s2 : IntKind.i64.wrap ((p1 : Int) + (p2 : Int) + (c : Int)) = (s : Int) := by rw [IntWalk.i64_in _ (by omega)]; omega
      have s2' : (p1 : Int) + (p2 : Int) + (c : Int) = (s : Int) := by omega
      have s3 : IntKind.i64.wrap (s : Int) = (s : Int) := IntWalk.i64_in _ (by omega)
      have s4 : Int.tmod (s : Int) 2 = (o : Int) := by rw [ho]; rfl
      have s5 : Int.tdiv (s : Int) 2 = (c2 : Int) := by rw [hc2]; rfl
      have s6 : IntKind.i64.wrap (o : Int) = (o : Int) := IntWalk.i64_in _ (by omega)
      have s7 : IntKind.i64.wrap (c2 : Int) = (c2 : Int) := IntWalk.i64_in _ (by omega)
      have Hg := Lib.hid (show Q[k]?.getD 0 = (o : Int) by rw [hQ.out, tabQ_get _ _ (by omega), st1])
      have P1 := Lib.hid hp1
      have P2 := Lib.hid hp2
      have C2 := Lib.hid st2
      clear hp1 hp2 hs ho hc2 st1 st2 xa xb
      go_wp2_with fail
      refine (bit_any _ _ _ (bts a) k _ (HA.out.below Hbw.out) (by omega) (by omega)).mono ?_
      rintro e w1 ⟨rfl, rfl⟩
      rw [bts_get, ← P1.out]
      go_wp2_with fail
      refine (bit_any _ _ _ (bts b) k _ (HB.out.below Hbw.out) (by omega) (by omega)).mono ?_
      rintro e w1 ⟨rfl, rfl⟩
      rw [bts_get, ← P2.out]
      go_wp2_with (at_builtin; refine wpList_append_one rfl (.tmp 34) (.tmp 37) 43 rfl w.heap.size 3 i0 (.int .i64 0) 8 Try.underlying43 hi hz0 hz1 hz2 rfl _ (.int .i64 o) k _ rfl rfl Hown.out rfl (by omega) (by omega) Hbw.out.size ?_)
      intro v' w1 hown' hgrow
      have R := Lib.hid (OwnI.step (v' := v') (by rw [hQl.out]; omega) Hbw.out.size Hown.out Hbw.out (by rw [Hg.out]; exact hown') hgrow)
      clear hown' hgrow
      go_wp2
      go_roundw
      case rel => exact ⟨k + 1, c2, by omega, by go_num, by go_num, R.out.1, R.out.2, C2.out⟩
      case measure => simp [intOf]; omega
    have t1 : ¬ (k : Int) < (la : Int) := by omega
    have t2 : ¬ (k : Int) < (lb : Int) := by omega
    have t3 : ¬ (0 : Int) < (c : Int) := by omega
    have hc0 : c = 0 := by omega
    have hMk : M ≤ k := by omega
    have hsum : a + b < 2 ^ k := by
      have hcc := Hcc.out
      rw [hc0, (Hcz.out k hMk).1, (Hcz.out k hMk).2] at hcc
      have hp : 0 < 2 ^ k := Nat.pow_pos (by decide)
      exact (Nat.div_eq_zero_iff_lt hp).1 hcc.symm
    obtain ⟨A', cap', rfl, hat⟩ := Hown.out.at_take (by rw [hQl.out]; exact hk)
    have hres : ptrim (Q.take k) = bts (a + b) := by rw [hQ.out]; exact tabQ_bts hk hsum
    have hpl := plen_bts hres
    have Hat := Lib.hid hat
    have Hres := Lib.hid hres
    have Hpl := Lib.hid hpl
    clear Hcc hsum hres hpl hi hz0 hz1 hz2
    subst hc0
    go_wp2_with fail
    refine (btrim_any _ _ _ _ _ Hat.out (by omega)).mono ?_
    rintro e w2 ⟨rfl, rfl⟩
    have hfin := Hat.out.take (k := plen (Q.take k)) (by have := plen_le (Q.take k); rw [Hat.out.length] at this; exact this)
    have Hfin := Lib.hid (show I64At wr A' (plen (Q.take k)) cap' (bts (a + b)) by rw [← Hres.out]; exact hfin)
    clear hfin hat
    go_wp2
    go_ret
    exact ⟨_, _, _, rfl, Hfin.out, (own_typ Hown.out).le (by have := plen_le (Q.take k); rw [Hat.out.length] at this; exact this), Hbw.out⟩
end Go.Proofs.Ytgblfpkfapmlnaa
